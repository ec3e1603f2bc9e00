/-
  The walks and the laws that the statement leans on, part 14.
-/
import Derived.Test.YtbkojpkdphggeaaZ13
namespace Go.Proofs.Ytbkojpkdphggeaa
open Go
set_option linter.unusedVariables false
set_option linter.unusedSimpArgs false
set_option linter.defProp false
def TFCnN :=
  And.intro (And.intro (And.intro (And.intro (And.intro (And.intro tyc0 tyc3) (And.intro zmb3 (And.intro tyc4 zmb4))) (And.intro (And.intro tyc25 mth25_31) (And.intro mth25_35 (And.intro mth25_33 mth25_32)))) (And.intro (And.intro (And.intro con25 zmb25) (And.intro tyc28 (And.intro elt28 mkz28))) (And.intro (And.intro mkc28 apT28) (And.intro elk28 (And.intro zmb28 tyc29))))) (And.intro (And.intro (And.intro (And.intro elt29 mkz29) (And.intro mkc29 (And.intro apT29 elk29))) (And.intro (And.intro zmb29 tyc33) (And.intro zmb33 (And.intro tyc34 tyc37)))) (And.intro (And.intro (And.intro foff37_0 fpart37_0) (And.intro foff37_1 (And.intro fpart37_1 foff37_2))) (And.intro (And.intro fpart37_2 zmb37) (And.intro bldT37 (And.intro tyc39 foff39_0)))))) (And.intro (And.intro (And.intro (And.intro (And.intro fpart39_0 foff39_1) (And.intro fpart39_1 (And.intro foff39_2 fpart39_2))) (And.intro (And.intro zmb39 bldT39) (And.intro tyc50 (And.intro foff50_0 fpart50_0)))) (And.intro (And.intro (And.intro foff50_1 fpart50_1) (And.intro foff50_2 (And.intro fpart50_2 foff50_3))) (And.intro (And.intro fpart50_3 foff50_4) (And.intro fpart50_4 (And.intro fe50 zmb50))))) (And.intro (And.intro (And.intro (And.intro bldT50 tyc53) (And.intro foff53_0 (And.intro fpart53_0 foff53_1))) (And.intro (And.intro fpart53_1 zmb53) (And.intro bldT53 (And.intro Try.underlying0 Try.underlying3)))) (And.intro (And.intro (And.intro Try.underlying4 Try.underlying25) (And.intro Try.underlying28 (And.intro Try.underlying29 Try.underlying33))) (And.intro (And.intro Try.underlying34 Try.underlying37) (And.intro Try.underlying39 (And.intro Try.underlying50 Try.underlying53))))))
theorem ACt.frzV {P : Program} {f : FuncId} {args args' : List AV} {b : Nat} {m : MB} {F : Hp} {p : AV → Hp → Prop} (h : ACt P f args' F p) (hvw : VwL [(b, m)] args args') :
    ACt P f args ((b, m) :: F) p := by
  intro cx vs hK hw hs hv
  have hlen := hvw.length
  have hbl := keys_lt hw _ (List.mem_cons_self ..)
  have hnd := hw.nodup
  simp only [List.map_cons, List.nodup_cons] at hnd
  have himm : ∀ c, imm cx cx.w0 ((b, m) :: F) c → cx.I c := by
    rintro c (hc | ⟨h1, h2, h3⟩)
    · exact hc
    · rcases h1 with h1 | h1
      · rw [hK] at h1
        obtain ⟨x, hx, he⟩ := List.mem_map.1 h1
        exact absurd he (h3 x hx)
      · omega
  have hI : ∀ c, (cx.I c ∨ c = b) → c < cx.w0.heap.size ∧ c ∉ F.map (·.1) := by
    rintro c (hc | rfl)
    · refine ⟨(cx.hI c hc).1, fun hm => (cx.hI c hc).2 ?_⟩
      rw [hK]; exact List.mem_cons_of_mem _ hm
    · exact ⟨hbl, hnd.1⟩
  have hI2 : ∀ c, cx.I c → c < cx.w0.heap.size ∧ c ∉ [b] := fun c hc => ⟨(cx.hI c hc).1, fun hm => (cx.hI c hc).2 (by rw [hK, List.mem_singleton.1 hm]; exact List.mem_cons_self ..)⟩
  have hw2 : OkW ⟨cx.w0, cx.I, [b], hI2⟩ [(b, m)] cx.w0 := ⟨by simp, fun x hx => .inl (by rw [List.mem_singleton.1 hx]; simp), fun x hx => by
    rw [List.mem_singleton.1 hx]
    exact (hw.mem _ (List.mem_cons_self ..)).mono (fun c hc => ⟨.inl (himm c hc), rfl⟩) rfl, ⟨rfl, rfl, rfl, Nat.le_refl _, fun _ _ _ => rfl⟩⟩
  have himm2 : ∀ c, imm ⟨cx.w0, cx.I, [b], hI2⟩ cx.w0 [(b, m)] c → cx.I c := by
    rintro c (hc | ⟨h1, h2, h3⟩)
    · exact hc
    · have := h3 (b, m) (List.mem_cons_self ..)
      rcases h1 with h1 | h1
      · simp at h1; exact absurd h1.symm this
      · simp only at h1 h2; omega
  have := h ⟨cx.w0, fun c => cx.I c ∨ c = b, F.map (·.1), hI⟩ vs rfl
    ⟨hnd.2, fun x hx => .inl (List.mem_map_of_mem hx), fun x hx => (hw.mem x (List.mem_cons_of_mem _ hx)).mono (fun c hc => ⟨.inl (.inl (himm c hc)), rfl⟩) rfl, ⟨rfl, rfl, rfl, Nat.le_refl _, fun _ _ _ => rfl⟩⟩
    (by omega) (fun i hi => by
      have hi' : i < args.length := by omega
      exact (hvw.get i hi').rep hw2 (fun c hc => .inl (himm2 c hc)) (fun x hx => by simp at hx; subst hx; exact .inr rfl) ((hv i hi').mono fun c hc => ⟨.inl hc, rfl⟩))
  refine this.mono ?_
  rintro e w' ⟨v, r, F', he, hp, hw', hr⟩
  have e1 := hw.ext
  have e2 := hw'.ext
  have hsz : cx.w0.heap.size ≤ w'.heap.size := e2.size
  have hkey : ∀ x ∈ F', x.1 ∈ cx.K ∨ cx.w0.heap.size ≤ x.1 := fun x hx => by
    rcases hw'.keys x hx with h | h
    · exact .inl (by rw [hK]; exact List.mem_cons_of_mem _ h)
    · exact .inr h
  have hbF : ∀ x ∈ F', x.1 ≠ b := fun x hx he => by
    rcases hw'.keys x hx with h | h
    · exact hnd.1 (he ▸ h)
    · simp only at h; omega
  have hIm : ∀ c, imm ⟨cx.w0, fun c => cx.I c ∨ c = b, F.map (·.1), hI⟩ w' F' c → imm cx w' F' c := by
    rintro c ((hc | rfl) | ⟨h1, h2, h3⟩)
    · exact .inl hc
    · exact .inr ⟨.inl (by rw [hK]; exact List.mem_cons_self ..), by omega, hbF⟩
    · refine .inr ⟨?_, h2, h3⟩
      rcases h1 with h1 | h1
      · exact .inl (by rw [hK]; exact List.mem_cons_of_mem _ h1)
      · exact .inr h1
  refine ⟨v, r, F', he, hp, ⟨hw'.nodup, hkey, fun x hx => (hw'.mem x hx).mono (fun c hc => ⟨hIm c hc, rfl⟩) rfl, ?_⟩, hr.mono fun c hc => ⟨hIm c hc, rfl⟩⟩
  exact ⟨e2.os.trans e1.os, e2.tape.trans e1.tape, e2.output.trans e1.output, Nat.le_trans e1.size e2.size, fun c hc hk => (e2.blk c hc (fun hm => hk (by rw [hK]; exact List.mem_cons_of_mem _ hm))).trans (e1.blk c hc hk)⟩
theorem pr_o {α : Type} (a : α) (l : List α) : List.Perm (a :: l) (l ++ [a]) := by
  show List.Perm ([a] ++ l) (l ++ [a])
  exact List.perm_append_comm
abbrev av (x : Ac) : AV := .agg [iv .i64 x.kd, iv .i64 x.i, .lit (.string x.m.g), bv x.m.p, .sl x.m.ks.length (kcs x.m.ks)]
theorem kV0 : kV [] = nsl := rfl
set_option maxHeartbeats 2000000 in
theorem does_ct (c : Nat) (a : CA) (ha : AOk a) (g : CS c a) (x : Ac) (hz : ∀ k ∈ x.m.ks, Kz k) : ACt Try.prog 9 [pt c 0, av x] (cH c a g.1) (fun r F' => ∃ g' : CS c (stA a x).1, r = .tup [kV (stA a x).2.1, iv .i64 (stA a x).2.2] ∧ F' = cH c (stA a x).1 g'.1) := by
  have c1 := post_c c a ha g x.m hz
  have c2 := del_c c a ha g x.i
  have c3 := lose_c c a ha g x.i
  have c4 := dbl_c c a ha g x.i
  obtain ⟨S, hS⟩ : ∃ S, S = stA a x := ⟨_, rfl⟩
  rw [← hS]
  unfold stA at hS
  obtain ⟨kd, i, m⟩ := x
  simp only at c1 c2 c3 c4 hS hz ⊢
  unfold mv at c1
  unfold av
  simp only
  obtain ⟨n, hn⟩ : ∃ n, n = m.ks.length := ⟨_, rfl⟩
  obtain ⟨K1, hK1⟩ : ∃ C, C = kcs m.ks := ⟨_, rfl⟩
  rw [← hn, ← hK1] at c1 ⊢
  by_cases h1 : kd = 1
  · subst h1
    rw [if_pos rfl] at hS
    obtain ⟨P, hP⟩ : ∃ P, P = pst a m := ⟨_, rfl⟩
    rw [← hP] at c1 hS
    subst hS
    clear hP hK1
    obtain ⟨G, hG⟩ : ∃ G, G = cH c a g.1 := ⟨_, rfl⟩
    rw [← hG] at c1 ⊢
    obtain ⟨mg, mp, mks⟩ := m
    refine ACt.intro Try.func9 rfl (by kernel_rfl) (by simp [Try.ntmps9]) (fun cx => ?_)
    simp only [argE, Try.ntmps9, Try.results9]
    first | (have FRx := FR; clear FRx) | have FR := fr0S
    repeat' first | (refine Sm.mk ?_; try simp -dsimp only [ZK, rvc, drawF, headN, pureH, stp, dvc, calleeOf, gcall, pev, eff, newB, okd, og, ogs, ogo, ogp, slv, bltv, opd, litv, strip, one, both, putE, St.put, look, gdOf, gdv, picka, pickv, pickw, binv, bini, bins, binb, binp, binq, isSlT, bina, shp, eqCells, unv, convv, nilv, faddv, addp, idxav, idxp, load1, load1m, loadn, loadnm, loadv, hget, hset, hrep, hdel, slicev, slice3v, bnd, shift1, lenv, capv, IntKind.bits, extractv, fieldv, indexv, min2v, max2v, mkiv, tasv, tasz, cellsA, fillA, buildv, stC, oneC, rowMB, intsA, plN, appE, appZ, appC, appS, srcB, appNZ, appNC, VwL, srcC, srcZ, srcM, isBoolT, isPtrT, isSliceT, uOk, Value.oneCell', Nat.reducePow, Int.reducePow, Nat.reduceAdd, Nat.reduceMul, Nat.reduceSub, Nat.reduceLT, Nat.reduceLeDiff, Nat.reduceEqDiff, Nat.reduceBEq, Nat.reduceDiv, Nat.reduceMod, ↓reduceIte, reduceCtorEq, Int.reduceToNat, Int.reduceLT, Int.reduceLE, TFCnN, SeqQ, BlkQ, LoopQ, BodyQ, FR.out]) | (refine CallV.exM (c1) (pr_o _ _) (fun h => Sm.out ?_)) | refine WP.seq fun K hK => ?_ | refine WP.region (rvc_sound _ _ (Sm.out ?_)) | refine WP.drawK rfl mixed (by decide +kernel) (Sm.out ?_) | (refine Ob.mk ?_; focus (first | assumption | omega | decide | trivial | (intro hob; simp only [hob, ZF]; done) | (intros; (repeat' refine And.intro ?_ ?_) <;> first | assumption | omega | trivial | decide) | (intros; simp only [ZE] at *; (repeat' refine And.intro ?_ ?_) <;> first | assumption | omega | trivial))) | refine And.intro (Ob.out ?_) ?_ | refine WP.block ?_ | (refine WP.cond rfl (fun hc => ?_) (fun hc => ?_) <;> (try simp only [ZC, reduceCtorEq, ZD] at hc) <;> (try exact absurd hc (by decide)) <;> (try (exfalso; omega))) | ((first | refine WP.skip ?_ | refine WP.exit ?_); simp only [SeqQ, BlkQ, LoopQ, BodyQ, ↓reduceIte, Nat.reduceEqDiff, reduceCtorEq, look, true_and]) | refine WP.ret (Sm.out ?_) | (first | refine ExG.no (Sm.out ?_) | refine Or.inl (ExG.no (Sm.out ?_)) | refine Or.inl (And.intro (fun hg => absurd hg (by decide)) (ExG.no (Sm.out ?_)))) | (refine Rt.mk ?_; refine And.intro ?_ ?_ <;> (intro hg; first | exact absurd hg (by decide) | refine Sm.out ?_)) | (refine Nu.mk ?_; first | (fail_if_success have := nb1); intro nb1 | (fail_if_success have := nb2); intro nb2 | (fail_if_success have := nb3); intro nb3 | (fail_if_success have := nb4); intro nb4 | (fail_if_success have := nb5); intro nb5 | (fail_if_success have := nb6); intro nb6 | (fail_if_success have := nb7); intro nb7 | (fail_if_success have := nb8); intro nb8 | intro nbz) | (refine Fr.mk ?_; intro hfr; (first | (have hFRb : _ ≤ _ ∧ _ ≤ _ := And.intro hfr.1 hfr.2.1) | (have hFRb : _ ≤ _ := hfr.1) | skip); replace FR := Sm.mk (And.intro hfr FR.out); clear hfr; refine Sm.out ?_) | refine Two.mk ?_ ?_ | (refine Cs.mk ?_; intro hcs; first | exact False.elim hcs | (exfalso; omega) | (refine Sm.out ?_)) | go_step | omega | (simp only [maxLen_eq]; omega)
    (refine OutQ.drop _ _ ((List.Perm.refl _)) (by simp only [resv, ZK, look, loadv, loadn, loadnm, load1, load1m, hget, ↓reduceIte, Nat.reduceEqDiff, Nat.reduceAdd, Nat.reduceMul, Nat.reduceLeDiff, Nat.reduceLT, reduceCtorEq, TFCnN, FR.out, kV0]) ⟨h, (by simp only [resv, resA, ZK, look, loadv, loadn, loadnm, load1, load1m, hget, ↓reduceIte, Nat.reduceEqDiff, Nat.reduceAdd, Nat.reduceMul, Nat.reduceLeDiff, Nat.reduceLT, reduceCtorEq, TFCnN, FR.out, kV0]; first | done | rfl), rfl⟩)
  have k1 : (kd == 1) = false := beq_eq_false_iff_ne.2 h1
  rw [if_neg h1] at hS
  by_cases h2 : kd = 2
  · subst h2
    rw [if_pos rfl] at hS
    rw [← hS] at c2
    clear hS hK1
    obtain ⟨G, hG⟩ : ∃ G, G = cH c a g.1 := ⟨_, rfl⟩
    rw [← hG] at c2 ⊢
    obtain ⟨W, hW⟩ : ∃ W, W = kV S.2.1 := ⟨_, rfl⟩
    have hWl : (∃ v, W = .lit v) ∨ ∃ n cs, W = .sl n cs := by
      rw [hW]
      cases S.2.1 with
      | nil => exact .inl ⟨_, rfl⟩
      | cons k r => exact .inr ⟨_, _, rfl⟩
    rw [← hW] at c2 ⊢
    clear hW
    obtain ⟨mg, mp, mks⟩ := m
    rcases hWl with ⟨v, rfl⟩ | ⟨nn, cs, rfl⟩
    all_goals
      refine ACt.intro Try.func9 rfl (by kernel_rfl) (by simp [Try.ntmps9]) (fun cx => ?_)
      simp only [argE, Try.ntmps9, Try.results9]
    all_goals (
        first | (have FRx := FR; clear FRx) | have FR := fr0S
        repeat' first | (refine Sm.mk ?_; try simp -dsimp only [ZK, rvc, drawF, headN, pureH, stp, dvc, calleeOf, gcall, pev, eff, newB, okd, og, ogs, ogo, ogp, slv, bltv, opd, litv, strip, one, both, putE, St.put, look, gdOf, gdv, picka, pickv, pickw, binv, bini, bins, binb, binp, binq, isSlT, bina, shp, eqCells, unv, convv, nilv, faddv, addp, idxav, idxp, load1, load1m, loadn, loadnm, loadv, hget, hset, hrep, hdel, slicev, slice3v, bnd, shift1, lenv, capv, IntKind.bits, extractv, fieldv, indexv, min2v, max2v, mkiv, tasv, tasz, cellsA, fillA, buildv, stC, oneC, rowMB, intsA, plN, appE, appZ, appC, appS, srcB, appNZ, appNC, VwL, srcC, srcZ, srcM, isBoolT, isPtrT, isSliceT, uOk, Value.oneCell', Nat.reducePow, Int.reducePow, Nat.reduceAdd, Nat.reduceMul, Nat.reduceSub, Nat.reduceLT, Nat.reduceLeDiff, Nat.reduceEqDiff, Nat.reduceBEq, Nat.reduceDiv, Nat.reduceMod, ↓reduceIte, reduceCtorEq, Int.reduceToNat, Int.reduceLT, Int.reduceLE, TFCnN, SeqQ, BlkQ, LoopQ, BodyQ, k1, FR.out]) | (refine CallV.exM (c2) (pr_o _ _) (fun h => Sm.out ?_)) | refine WP.seq fun K hK => ?_ | refine WP.region (rvc_sound _ _ (Sm.out ?_)) | refine WP.drawK rfl mixed (by decide +kernel) (Sm.out ?_) | (refine Ob.mk ?_; focus (first | assumption | omega | decide | trivial | (intro hob; simp only [hob, ZF]; done) | (intros; (repeat' refine And.intro ?_ ?_) <;> first | assumption | omega | trivial | decide) | (intros; simp only [ZE] at *; (repeat' refine And.intro ?_ ?_) <;> first | assumption | omega | trivial))) | refine And.intro (Ob.out ?_) ?_ | refine WP.block ?_ | (refine WP.cond rfl (fun hc => ?_) (fun hc => ?_) <;> (try simp only [ZC, reduceCtorEq, ZD] at hc) <;> (try exact absurd hc (by decide)) <;> (try (exfalso; omega))) | ((first | refine WP.skip ?_ | refine WP.exit ?_); simp only [SeqQ, BlkQ, LoopQ, BodyQ, ↓reduceIte, Nat.reduceEqDiff, reduceCtorEq, look, true_and]) | refine WP.ret (Sm.out ?_) | (first | refine ExG.no (Sm.out ?_) | refine Or.inl (ExG.no (Sm.out ?_)) | refine Or.inl (And.intro (fun hg => absurd hg (by decide)) (ExG.no (Sm.out ?_)))) | (refine Rt.mk ?_; refine And.intro ?_ ?_ <;> (intro hg; first | exact absurd hg (by decide) | refine Sm.out ?_)) | (refine Nu.mk ?_; first | (fail_if_success have := nb1); intro nb1 | (fail_if_success have := nb2); intro nb2 | (fail_if_success have := nb3); intro nb3 | (fail_if_success have := nb4); intro nb4 | (fail_if_success have := nb5); intro nb5 | (fail_if_success have := nb6); intro nb6 | (fail_if_success have := nb7); intro nb7 | (fail_if_success have := nb8); intro nb8 | intro nbz) | (refine Fr.mk ?_; intro hfr; (first | (have hFRb : _ ≤ _ ∧ _ ≤ _ := And.intro hfr.1 hfr.2.1) | (have hFRb : _ ≤ _ := hfr.1) | skip); replace FR := Sm.mk (And.intro hfr FR.out); clear hfr; refine Sm.out ?_) | refine Two.mk ?_ ?_ | (refine Cs.mk ?_; intro hcs; first | exact False.elim hcs | (exfalso; omega) | (refine Sm.out ?_)) | go_step | omega | (simp only [maxLen_eq]; omega))
    all_goals (refine OutQ.drop _ _ ((List.Perm.refl _)) (by simp only [resv, ZK, look, loadv, loadn, loadnm, load1, load1m, hget, ↓reduceIte, Nat.reduceEqDiff, Nat.reduceAdd, Nat.reduceMul, Nat.reduceLeDiff, Nat.reduceLT, reduceCtorEq, TFCnN, FR.out]) ⟨h, (by simp only [resv, resA, ZK, look, loadv, loadn, loadnm, load1, load1m, hget, ↓reduceIte, Nat.reduceEqDiff, Nat.reduceAdd, Nat.reduceMul, Nat.reduceLeDiff, Nat.reduceLT, reduceCtorEq, TFCnN, FR.out]; first | done | rfl), rfl⟩)
  have k2 : (kd == 2) = false := beq_eq_false_iff_ne.2 h2
  rw [if_neg h2] at hS
  by_cases h3 : kd = 3
  · subst h3
    rw [if_pos rfl] at hS
    obtain ⟨P, hP⟩ : ∃ P, P = lse a i := ⟨_, rfl⟩
    rw [← hP] at c3 hS
    subst hS
    clear hP hK1
    obtain ⟨G, hG⟩ : ∃ G, G = cH c a g.1 := ⟨_, rfl⟩
    rw [← hG] at c3 ⊢
    obtain ⟨mg, mp, mks⟩ := m
    refine ACt.intro Try.func9 rfl (by kernel_rfl) (by simp [Try.ntmps9]) (fun cx => ?_)
    simp only [argE, Try.ntmps9, Try.results9]
    first | (have FRx := FR; clear FRx) | have FR := fr0S
    repeat' first | (refine Sm.mk ?_; try simp -dsimp only [ZK, rvc, drawF, headN, pureH, stp, dvc, calleeOf, gcall, pev, eff, newB, okd, og, ogs, ogo, ogp, slv, bltv, opd, litv, strip, one, both, putE, St.put, look, gdOf, gdv, picka, pickv, pickw, binv, bini, bins, binb, binp, binq, isSlT, bina, shp, eqCells, unv, convv, nilv, faddv, addp, idxav, idxp, load1, load1m, loadn, loadnm, loadv, hget, hset, hrep, hdel, slicev, slice3v, bnd, shift1, lenv, capv, IntKind.bits, extractv, fieldv, indexv, min2v, max2v, mkiv, tasv, tasz, cellsA, fillA, buildv, stC, oneC, rowMB, intsA, plN, appE, appZ, appC, appS, srcB, appNZ, appNC, VwL, srcC, srcZ, srcM, isBoolT, isPtrT, isSliceT, uOk, Value.oneCell', Nat.reducePow, Int.reducePow, Nat.reduceAdd, Nat.reduceMul, Nat.reduceSub, Nat.reduceLT, Nat.reduceLeDiff, Nat.reduceEqDiff, Nat.reduceBEq, Nat.reduceDiv, Nat.reduceMod, ↓reduceIte, reduceCtorEq, Int.reduceToNat, Int.reduceLT, Int.reduceLE, TFCnN, SeqQ, BlkQ, LoopQ, BodyQ, k1, k2, FR.out]) | (refine CallV.exM (c3) (pr_o _ _) (fun h => Sm.out ?_)) | refine WP.seq fun K hK => ?_ | refine WP.region (rvc_sound _ _ (Sm.out ?_)) | refine WP.drawK rfl mixed (by decide +kernel) (Sm.out ?_) | (refine Ob.mk ?_; focus (first | assumption | omega | decide | trivial | (intro hob; simp only [hob, ZF]; done) | (intros; (repeat' refine And.intro ?_ ?_) <;> first | assumption | omega | trivial | decide) | (intros; simp only [ZE] at *; (repeat' refine And.intro ?_ ?_) <;> first | assumption | omega | trivial))) | refine And.intro (Ob.out ?_) ?_ | refine WP.block ?_ | (refine WP.cond rfl (fun hc => ?_) (fun hc => ?_) <;> (try simp only [ZC, reduceCtorEq, ZD] at hc) <;> (try exact absurd hc (by decide)) <;> (try (exfalso; omega))) | ((first | refine WP.skip ?_ | refine WP.exit ?_); simp only [SeqQ, BlkQ, LoopQ, BodyQ, ↓reduceIte, Nat.reduceEqDiff, reduceCtorEq, look, true_and]) | refine WP.ret (Sm.out ?_) | (first | refine ExG.no (Sm.out ?_) | refine Or.inl (ExG.no (Sm.out ?_)) | refine Or.inl (And.intro (fun hg => absurd hg (by decide)) (ExG.no (Sm.out ?_)))) | (refine Rt.mk ?_; refine And.intro ?_ ?_ <;> (intro hg; first | exact absurd hg (by decide) | refine Sm.out ?_)) | (refine Nu.mk ?_; first | (fail_if_success have := nb1); intro nb1 | (fail_if_success have := nb2); intro nb2 | (fail_if_success have := nb3); intro nb3 | (fail_if_success have := nb4); intro nb4 | (fail_if_success have := nb5); intro nb5 | (fail_if_success have := nb6); intro nb6 | (fail_if_success have := nb7); intro nb7 | (fail_if_success have := nb8); intro nb8 | intro nbz) | (refine Fr.mk ?_; intro hfr; (first | (have hFRb : _ ≤ _ ∧ _ ≤ _ := And.intro hfr.1 hfr.2.1) | (have hFRb : _ ≤ _ := hfr.1) | skip); replace FR := Sm.mk (And.intro hfr FR.out); clear hfr; refine Sm.out ?_) | refine Two.mk ?_ ?_ | (refine Cs.mk ?_; intro hcs; first | exact False.elim hcs | (exfalso; omega) | (refine Sm.out ?_)) | go_step | omega | (simp only [maxLen_eq]; omega)
    (refine OutQ.drop _ _ ((List.Perm.refl _)) (by simp only [resv, ZK, look, loadv, loadn, loadnm, load1, load1m, hget, ↓reduceIte, Nat.reduceEqDiff, Nat.reduceAdd, Nat.reduceMul, Nat.reduceLeDiff, Nat.reduceLT, reduceCtorEq, TFCnN, FR.out, kV0]) ⟨h, (by simp only [resv, resA, ZK, look, loadv, loadn, loadnm, load1, load1m, hget, ↓reduceIte, Nat.reduceEqDiff, Nat.reduceAdd, Nat.reduceMul, Nat.reduceLeDiff, Nat.reduceLT, reduceCtorEq, TFCnN, FR.out, kV0]; first | done | rfl), rfl⟩)
  have k3 : (kd == 3) = false := beq_eq_false_iff_ne.2 h3
  rw [if_neg h3] at hS
  by_cases h4 : kd = 4
  · subst h4
    rw [if_pos rfl] at hS
    obtain ⟨P, hP⟩ : ∃ P, P = dbl a i := ⟨_, rfl⟩
    rw [← hP] at c4 hS
    subst hS
    clear hP hK1
    obtain ⟨G, hG⟩ : ∃ G, G = cH c a g.1 := ⟨_, rfl⟩
    rw [← hG] at c4 ⊢
    obtain ⟨mg, mp, mks⟩ := m
    refine ACt.intro Try.func9 rfl (by kernel_rfl) (by simp [Try.ntmps9]) (fun cx => ?_)
    simp only [argE, Try.ntmps9, Try.results9]
    first | (have FRx := FR; clear FRx) | have FR := fr0S
    repeat' first | (refine Sm.mk ?_; try simp -dsimp only [ZK, rvc, drawF, headN, pureH, stp, dvc, calleeOf, gcall, pev, eff, newB, okd, og, ogs, ogo, ogp, slv, bltv, opd, litv, strip, one, both, putE, St.put, look, gdOf, gdv, picka, pickv, pickw, binv, bini, bins, binb, binp, binq, isSlT, bina, shp, eqCells, unv, convv, nilv, faddv, addp, idxav, idxp, load1, load1m, loadn, loadnm, loadv, hget, hset, hrep, hdel, slicev, slice3v, bnd, shift1, lenv, capv, IntKind.bits, extractv, fieldv, indexv, min2v, max2v, mkiv, tasv, tasz, cellsA, fillA, buildv, stC, oneC, rowMB, intsA, plN, appE, appZ, appC, appS, srcB, appNZ, appNC, VwL, srcC, srcZ, srcM, isBoolT, isPtrT, isSliceT, uOk, Value.oneCell', Nat.reducePow, Int.reducePow, Nat.reduceAdd, Nat.reduceMul, Nat.reduceSub, Nat.reduceLT, Nat.reduceLeDiff, Nat.reduceEqDiff, Nat.reduceBEq, Nat.reduceDiv, Nat.reduceMod, ↓reduceIte, reduceCtorEq, Int.reduceToNat, Int.reduceLT, Int.reduceLE, TFCnN, SeqQ, BlkQ, LoopQ, BodyQ, k1, k2, k3, FR.out]) | (refine CallV.exM (c4) (pr_o _ _) (fun h => Sm.out ?_)) | refine WP.seq fun K hK => ?_ | refine WP.region (rvc_sound _ _ (Sm.out ?_)) | refine WP.drawK rfl mixed (by decide +kernel) (Sm.out ?_) | (refine Ob.mk ?_; focus (first | assumption | omega | decide | trivial | (intro hob; simp only [hob, ZF]; done) | (intros; (repeat' refine And.intro ?_ ?_) <;> first | assumption | omega | trivial | decide) | (intros; simp only [ZE] at *; (repeat' refine And.intro ?_ ?_) <;> first | assumption | omega | trivial))) | refine And.intro (Ob.out ?_) ?_ | refine WP.block ?_ | (refine WP.cond rfl (fun hc => ?_) (fun hc => ?_) <;> (try simp only [ZC, reduceCtorEq, ZD] at hc) <;> (try exact absurd hc (by decide)) <;> (try (exfalso; omega))) | ((first | refine WP.skip ?_ | refine WP.exit ?_); simp only [SeqQ, BlkQ, LoopQ, BodyQ, ↓reduceIte, Nat.reduceEqDiff, reduceCtorEq, look, true_and]) | refine WP.ret (Sm.out ?_) | (first | refine ExG.no (Sm.out ?_) | refine Or.inl (ExG.no (Sm.out ?_)) | refine Or.inl (And.intro (fun hg => absurd hg (by decide)) (ExG.no (Sm.out ?_)))) | (refine Rt.mk ?_; refine And.intro ?_ ?_ <;> (intro hg; first | exact absurd hg (by decide) | refine Sm.out ?_)) | (refine Nu.mk ?_; first | (fail_if_success have := nb1); intro nb1 | (fail_if_success have := nb2); intro nb2 | (fail_if_success have := nb3); intro nb3 | (fail_if_success have := nb4); intro nb4 | (fail_if_success have := nb5); intro nb5 | (fail_if_success have := nb6); intro nb6 | (fail_if_success have := nb7); intro nb7 | (fail_if_success have := nb8); intro nb8 | intro nbz) | (refine Fr.mk ?_; intro hfr; (first | (have hFRb : _ ≤ _ ∧ _ ≤ _ := And.intro hfr.1 hfr.2.1) | (have hFRb : _ ≤ _ := hfr.1) | skip); replace FR := Sm.mk (And.intro hfr FR.out); clear hfr; refine Sm.out ?_) | refine Two.mk ?_ ?_ | (refine Cs.mk ?_; intro hcs; first | exact False.elim hcs | (exfalso; omega) | (refine Sm.out ?_)) | go_step | omega | (simp only [maxLen_eq]; omega)
    (refine OutQ.drop _ _ ((List.Perm.refl _)) (by simp only [resv, ZK, look, loadv, loadn, loadnm, load1, load1m, hget, ↓reduceIte, Nat.reduceEqDiff, Nat.reduceAdd, Nat.reduceMul, Nat.reduceLeDiff, Nat.reduceLT, reduceCtorEq, TFCnN, FR.out, kV0]) ⟨h, (by simp only [resv, resA, ZK, look, loadv, loadn, loadnm, load1, load1m, hget, ↓reduceIte, Nat.reduceEqDiff, Nat.reduceAdd, Nat.reduceMul, Nat.reduceLeDiff, Nat.reduceLT, reduceCtorEq, TFCnN, FR.out, kV0]; first | done | rfl), rfl⟩)
  have k4 : (kd == 4) = false := beq_eq_false_iff_ne.2 h4
  rw [if_neg h4] at hS
  subst hS
  clear hK1
  simp only at c1 c2 c3 c4 ⊢
  obtain ⟨mg, mp, mks⟩ := m
  refine ACt.intro Try.func9 rfl (by kernel_rfl) (by simp [Try.ntmps9]) (fun cx => ?_)
  simp only [argE, Try.ntmps9, Try.results9]
  first | (have FRx := FR; clear FRx) | have FR := fr0S
  repeat' first | (refine Sm.mk ?_; try simp -dsimp only [ZK, rvc, drawF, headN, pureH, stp, dvc, calleeOf, gcall, pev, eff, newB, okd, og, ogs, ogo, ogp, slv, bltv, opd, litv, strip, one, both, putE, St.put, look, gdOf, gdv, picka, pickv, pickw, binv, bini, bins, binb, binp, binq, isSlT, bina, shp, eqCells, unv, convv, nilv, faddv, addp, idxav, idxp, load1, load1m, loadn, loadnm, loadv, hget, hset, hrep, hdel, slicev, slice3v, bnd, shift1, lenv, capv, IntKind.bits, extractv, fieldv, indexv, min2v, max2v, mkiv, tasv, tasz, cellsA, fillA, buildv, stC, oneC, rowMB, intsA, plN, appE, appZ, appC, appS, srcB, appNZ, appNC, VwL, srcC, srcZ, srcM, isBoolT, isPtrT, isSliceT, uOk, Value.oneCell', Nat.reducePow, Int.reducePow, Nat.reduceAdd, Nat.reduceMul, Nat.reduceSub, Nat.reduceLT, Nat.reduceLeDiff, Nat.reduceEqDiff, Nat.reduceBEq, Nat.reduceDiv, Nat.reduceMod, ↓reduceIte, reduceCtorEq, Int.reduceToNat, Int.reduceLT, Int.reduceLE, TFCnN, SeqQ, BlkQ, LoopQ, BodyQ, k1, k2, k3, k4, FR.out]) | refine WP.seq fun K hK => ?_ | refine WP.region (rvc_sound _ _ (Sm.out ?_)) | refine WP.drawK rfl mixed (by decide +kernel) (Sm.out ?_) | (refine Ob.mk ?_; focus (first | assumption | omega | decide | trivial | (intro hob; simp only [hob, ZF]; done) | (intros; (repeat' refine And.intro ?_ ?_) <;> first | assumption | omega | trivial | decide) | (intros; simp only [ZE] at *; (repeat' refine And.intro ?_ ?_) <;> first | assumption | omega | trivial))) | refine And.intro (Ob.out ?_) ?_ | refine WP.block ?_ | (refine WP.cond rfl (fun hc => ?_) (fun hc => ?_) <;> (try simp only [ZC, reduceCtorEq, ZD] at hc) <;> (try exact absurd hc (by decide)) <;> (try (exfalso; omega))) | ((first | refine WP.skip ?_ | refine WP.exit ?_); simp only [SeqQ, BlkQ, LoopQ, BodyQ, ↓reduceIte, Nat.reduceEqDiff, reduceCtorEq, look, true_and]) | refine WP.ret (Sm.out ?_) | (first | refine ExG.no (Sm.out ?_) | refine Or.inl (ExG.no (Sm.out ?_)) | refine Or.inl (And.intro (fun hg => absurd hg (by decide)) (ExG.no (Sm.out ?_)))) | (refine Rt.mk ?_; refine And.intro ?_ ?_ <;> (intro hg; first | exact absurd hg (by decide) | refine Sm.out ?_)) | (refine Nu.mk ?_; first | (fail_if_success have := nb1); intro nb1 | (fail_if_success have := nb2); intro nb2 | (fail_if_success have := nb3); intro nb3 | (fail_if_success have := nb4); intro nb4 | (fail_if_success have := nb5); intro nb5 | (fail_if_success have := nb6); intro nb6 | (fail_if_success have := nb7); intro nb7 | (fail_if_success have := nb8); intro nb8 | intro nbz) | (refine Fr.mk ?_; intro hfr; (first | (have hFRb : _ ≤ _ ∧ _ ≤ _ := And.intro hfr.1 hfr.2.1) | (have hFRb : _ ≤ _ := hfr.1) | skip); replace FR := Sm.mk (And.intro hfr FR.out); clear hfr; refine Sm.out ?_) | refine Two.mk ?_ ?_ | (refine Cs.mk ?_; intro hcs; first | exact False.elim hcs | (exfalso; omega) | (refine Sm.out ?_)) | go_step | omega | (simp only [maxLen_eq]; omega)
  (refine OutQ.drop _ _ ((pr_o _ _)) (by simp only [resv, ZK, look, loadv, loadn, loadnm, load1, load1m, hget, ↓reduceIte, Nat.reduceEqDiff, Nat.reduceAdd, Nat.reduceMul, Nat.reduceLeDiff, Nat.reduceLT, reduceCtorEq, TFCnN, FR.out, kV0]) ⟨g, (by simp only [resv, resA, ZK, look, loadv, loadn, loadnm, load1, load1m, hget, ↓reduceIte, Nat.reduceEqDiff, Nat.reduceAdd, Nat.reduceMul, Nat.reduceLeDiff, Nat.reduceLT, reduceCtorEq, TFCnN, FR.out, kV0]; first | done | rfl), rfl⟩)
def TFCnO :=
  And.intro (And.intro (And.intro (And.intro (And.intro (And.intro tyc0 tyc3) (And.intro zmb3 tyc4)) (And.intro (And.intro zmb4 tyc25) (And.intro mth25_31 mth25_35))) (And.intro (And.intro (And.intro mth25_33 mth25_32) (And.intro con25 zmb25)) (And.intro (And.intro tyc28 elt28) (And.intro mkz28 (And.intro mkc28 apT28))))) (And.intro (And.intro (And.intro (And.intro elk28 zmb28) (And.intro tyc29 elt29)) (And.intro (And.intro mkz29 mkc29) (And.intro apT29 (And.intro elk29 zmb29)))) (And.intro (And.intro (And.intro tyc33 zmb33) (And.intro tyc34 tyc37)) (And.intro (And.intro foff37_0 fpart37_0) (And.intro foff37_1 (And.intro fpart37_1 foff37_2)))))) (And.intro (And.intro (And.intro (And.intro (And.intro fpart37_2 zmb37) (And.intro bldT37 tyc50)) (And.intro (And.intro foff50_0 fpart50_0) (And.intro foff50_1 fpart50_1))) (And.intro (And.intro (And.intro foff50_2 fpart50_2) (And.intro foff50_3 fpart50_3)) (And.intro (And.intro foff50_4 fpart50_4) (And.intro fe50 (And.intro zmb50 bldT50))))) (And.intro (And.intro (And.intro (And.intro tyc53 foff53_0) (And.intro fpart53_0 foff53_1)) (And.intro (And.intro fpart53_1 zmb53) (And.intro bldT53 (And.intro Try.underlying0 Try.underlying3)))) (And.intro (And.intro (And.intro Try.underlying4 Try.underlying25) (And.intro Try.underlying28 Try.underlying29)) (And.intro (And.intro Try.underlying33 Try.underlying34) (And.intro Try.underlying37 (And.intro Try.underlying50 Try.underlying53))))))
theorem rn_one {x : Int} (h : x < 128) : rn [x] = [x] := by
  show rnF [x] 1 0 = [x]
  rw [rnF_succ, if_pos (by simp)]
  have e : elR [x] 0 = (x, 1) := by unfold elR; rw [if_pos (show [x].getD 0 0 < 128 from h)]; rfl
  rw [e]; rfl
theorem nmB_one {x : Int} (h : letB x = true) : nmB [x] = true := nmB_true ⟨by simp, by simp, h, fun i hi => by
  obtain rfl : i = 0 := by simpa using hi
  exact .inl h⟩
abbrev sA : ByteArray := ⟨#[97]⟩
abbrev sR : ByteArray := ⟨#[114]⟩
theorem nm_a : nmS sA = true := by
  unfold nmS
  rw [show ub sA.data.toList = [97] from rfl, rn_one (by decide)]
  exact nmB_one (by decide)
theorem nm_r : nmS sR = true := by
  unfold nmS
  rw [show ub sR.data.toList = [114] from rfl, rn_one (by decide)]
  exact nmB_one (by decide)
abbrev k0 : Ky := ⟨sA, sR, false, 1, false⟩
abbrev m0 : Mg := ⟨sA, false, [k0]⟩
theorem kr0 : krB k0 = true := by unfold krB; rw [nm_a, nm_r]; rfl
theorem mr0 : MR m0 := ⟨by simp, by simp, fun i hi => by
  obtain rfl : i = 0 := by simpa using hi
  exact ⟨kr0, rfl, rfl, by simp⟩⟩
theorem hz0 : ∀ k ∈ m0.ks, Kz k := fun k hk => by
  rw [List.mem_singleton.1 hk]
  exact ⟨by decide, by decide⟩
abbrev A0 : CA := ⟨[], [], 0⟩
abbrev A1 : CA := ⟨[⟨false, m0⟩], [], 0⟩
abbrev A2 : CA := ⟨[⟨false, m0⟩, ⟨false, m0⟩], [], 0⟩
abbrev A3 : CA := ⟨[⟨false, m0⟩, ⟨true, m0⟩], [k0], 0⟩
abbrev A4 : CA := ⟨[⟨true, m0⟩, ⟨true, m0⟩], [k0], 0⟩
theorem hr0 : hrL [] [k0] = [k0] := by
  rw [hrL_cons, hrL_nil]; unfold addH; rw [hasB_f (by simp)]; rfl
theorem hr1 : hrL [k0] [k0] = [k0] := by
  rw [hrL_cons, hrL_nil]; unfold addH; rw [hasB_t (by simp)]; rfl
theorem st1 : pst A0 m0 = (A1, 0) := by unfold pst; rw [mrB_t mr0, if_neg (by decide), if_neg (by simp)]; rfl
theorem st2 : dbl A1 0 = (A2, 0) := by unfold dbl; rw [dif_pos (by simp), if_neg (by simp)]; rfl
theorem st3 : dlv A2 0 = (A3, ([], 0)) := by
  unfold dlv
  rw [dif_pos (by simp)]
  show (if false = true then _ else (_ : CA × (List Ky × Int))) = _
  rw [if_neg (by decide)]
  show ((⟨_, hrL [] [k0], _⟩ : CA), _) = _
  rw [hr0]; rfl
theorem st4 : dlv A3 0 = (A4, ([], 0)) := by
  unfold dlv
  rw [dif_pos (by simp)]
  show (if false = true then _ else (_ : CA × (List Ky × Int))) = _
  rw [if_neg (by decide)]
  show ((⟨_, hrL [k0] [k0], _⟩ : CA), _) = _
  rw [hr1]; rfl
theorem okA {a : CA} (h1 : a.l.length ≤ 60) (h2 : ∀ p ∈ a.l, p.m = m0) (h3 : a.h.length ≤ 50000) : AOk a := ⟨h1, fun p hp => by rw [h2 p hp]; exact mr0, h3⟩
def g0 (c : Nat) : CS c A0 := ⟨(none, (0, 0)), by simp [cH, fB, hB], ⟨fun _ => rfl, fun q hq => (by cases hq), fun h => absurd rfl h⟩⟩
theorem cH0 (c : Nat) : cH c A0 (g0 c).1 = [(c, chM nsl nsl (iv .u64 0))] := rfl
theorem post0 (c b : Nat) : ACt Try.prog 21 [pt c 0, .agg [.lit (.string sA), bv false, ms b 0 1 1]] [(b, kb k0), (c, chM nsl nsl (iv .u64 0))] (fun r F' => ∃ g : CS c A1, r = iv .i64 0 ∧ F' = cH c A1 g.1) := by
  have h := post_c c A0 (okA (by simp) (by simp) (by simp)) (g0 c) m0 hz0
  rw [st1, cH0] at h
  refine ACt.frzV h ⟨.same _, ?_, trivial⟩
  refine .agg rfl fun i hi => ?_
  have hi : i < 3 := hi
  rcases (by omega : i = 0 ∨ i = 1 ∨ i = 2) with rfl | rfl | rfl
  · exact .same _
  · exact .same _
  · exact vw_row (by omega) (by rw [maxLen_eq]; omega)
set_option maxHeartbeats 2000000 in
theorem awake_ct : ACt Try.prog 6 [] [] (Fn (bv true)) := by
  have cN := new_ct
  have cP := post0
  have zA : (⟨#[97]⟩ : ByteArray) = sA := rfl
  refine ACt.intro Try.func6 rfl (by kernel_rfl) (by simp [Try.ntmps6]) (fun cx => ?_)
  simp only [argE, Try.ntmps6, Try.results6]
  first | (have FRx := FR; clear FRx) | have FR := fr0S
  repeat' first | (refine Sm.mk ?_; try simp -dsimp only [ZK, rvc, drawF, headN, pureH, stp, dvc, calleeOf, gcall, pev, eff, newB, okd, og, ogs, ogo, ogp, slv, bltv, opd, litv, strip, one, both, putE, St.put, look, gdOf, gdv, picka, pickv, pickw, binv, bini, bins, binb, binp, binq, isSlT, bina, shp, eqCells, unv, convv, nilv, faddv, addp, idxav, idxp, load1, load1m, loadn, loadnm, loadv, hget, hset, hrep, hdel, slicev, slice3v, bnd, shift1, lenv, capv, IntKind.bits, extractv, fieldv, indexv, min2v, max2v, mkiv, tasv, tasz, cellsA, fillA, buildv, stC, oneC, rowMB, intsA, plN, appE, appZ, appC, appS, srcB, appNZ, appNC, VwL, srcC, srcZ, srcM, isBoolT, isPtrT, isSliceT, uOk, Value.oneCell', Nat.reducePow, Int.reducePow, Nat.reduceAdd, Nat.reduceMul, Nat.reduceSub, Nat.reduceLT, Nat.reduceLeDiff, Nat.reduceEqDiff, Nat.reduceBEq, Nat.reduceDiv, Nat.reduceMod, ↓reduceIte, reduceCtorEq, Int.reduceToNat, Int.reduceLT, Int.reduceLE, TFCnO, SeqQ, BlkQ, LoopQ, BodyQ, List.append_nil, FR.out]) | refine CallV.new1 (F := []) (List.Perm.refl _) (cN) rfl (Sm.out ?_) | (refine CallV.exM (cP _ _) (pmz _) (fun g1 => Sm.out ?_)) | refine WP.seq fun K hK => ?_ | ((fail_if_success (show WP _ _ _ (.region 3 _ _) _ _)); refine WP.region (rvc_sound _ _ (Sm.out ?_))) | ((fail_if_success (show WP _ _ _ (.region 3 _ _) _ _)); refine WP.drawK rfl mixed (by decide +kernel) (Sm.out ?_)) | (refine Ob.mk ?_; focus (first | assumption | omega | decide | trivial | (intro hob; simp only [hob, ZF]; done) | (intros; (repeat' refine And.intro ?_ ?_) <;> first | assumption | omega | trivial | decide) | (intros; simp only [ZE] at *; (repeat' refine And.intro ?_ ?_) <;> first | assumption | omega | trivial))) | refine And.intro (Ob.out ?_) ?_ | refine WP.block ?_ | (refine WP.cond rfl (fun hc => ?_) (fun hc => ?_) <;> (try simp only [ZC, reduceCtorEq, ZD] at hc) <;> (try exact absurd hc (by decide)) <;> (try (exfalso; omega))) | ((first | refine WP.skip ?_ | refine WP.exit ?_); simp only [SeqQ, BlkQ, LoopQ, BodyQ, ↓reduceIte, Nat.reduceEqDiff, reduceCtorEq, look, true_and]) | refine WP.ret (Sm.out ?_) | (first | refine ExG.no (Sm.out ?_) | refine Or.inl (ExG.no (Sm.out ?_)) | refine Or.inl (And.intro (fun hg => absurd hg (by decide)) (ExG.no (Sm.out ?_)))) | (refine Rt.mk ?_; refine And.intro ?_ ?_ <;> (intro hg; first | exact absurd hg (by decide) | refine Sm.out ?_)) | (refine Nu.mk ?_; first | (fail_if_success have := nb1); intro nb1 | (fail_if_success have := nb2); intro nb2 | (fail_if_success have := nb3); intro nb3 | (fail_if_success have := nb4); intro nb4 | (fail_if_success have := nb5); intro nb5 | (fail_if_success have := nb6); intro nb6 | (fail_if_success have := nb7); intro nb7 | (fail_if_success have := nb8); intro nb8 | intro nbz) | (refine Fr.mk ?_; intro hfr; (first | (have hFRb : _ ≤ _ ∧ _ ≤ _ := And.intro hfr.1 hfr.2.1) | (have hFRb : _ ≤ _ := hfr.1) | skip); replace FR := Sm.mk (And.intro hfr FR.out); clear hfr; refine Sm.out ?_) | refine Two.mk ?_ ?_ | (refine Cs.mk ?_; intro hcs; first | exact False.elim hcs | (exfalso; omega) | (refine Sm.out ?_)) | go_step | omega | (simp only [maxLen_eq]; omega)
  have c2 := dbl_c nb1 A1 (okA (by simp) (by simp) (by simp)) g1 0
  rw [st2] at c2
  simp only at c2
  first | (have FRx := FR; clear FRx) | have FR := fr0S
  repeat' first | (refine Sm.mk ?_; try simp -dsimp only [ZK, rvc, drawF, headN, pureH, stp, dvc, calleeOf, gcall, pev, eff, newB, okd, og, ogs, ogo, ogp, slv, bltv, opd, litv, strip, one, both, putE, St.put, look, gdOf, gdv, picka, pickv, pickw, binv, bini, bins, binb, binp, binq, isSlT, bina, shp, eqCells, unv, convv, nilv, faddv, addp, idxav, idxp, load1, load1m, loadn, loadnm, loadv, hget, hset, hrep, hdel, slicev, slice3v, bnd, shift1, lenv, capv, IntKind.bits, extractv, fieldv, indexv, min2v, max2v, mkiv, tasv, tasz, cellsA, fillA, buildv, stC, oneC, rowMB, intsA, plN, appE, appZ, appC, appS, srcB, appNZ, appNC, VwL, srcC, srcZ, srcM, isBoolT, isPtrT, isSliceT, uOk, Value.oneCell', Nat.reducePow, Int.reducePow, Nat.reduceAdd, Nat.reduceMul, Nat.reduceSub, Nat.reduceLT, Nat.reduceLeDiff, Nat.reduceEqDiff, Nat.reduceBEq, Nat.reduceDiv, Nat.reduceMod, ↓reduceIte, reduceCtorEq, Int.reduceToNat, Int.reduceLT, Int.reduceLE, TFCnO, SeqQ, BlkQ, LoopQ, BodyQ, List.append_nil, FR.out]) | (refine CallV.exM (c2) (pmz _) (fun g2 => Sm.out ?_)) | refine WP.seq fun K hK => ?_ | ((fail_if_success (show WP _ _ _ (.region 4 _ _) _ _)); refine WP.region (rvc_sound _ _ (Sm.out ?_))) | ((fail_if_success (show WP _ _ _ (.region 4 _ _) _ _)); refine WP.drawK rfl mixed (by decide +kernel) (Sm.out ?_)) | (refine Ob.mk ?_; focus (first | assumption | omega | decide | trivial | (intro hob; simp only [hob, ZF]; done) | (intros; (repeat' refine And.intro ?_ ?_) <;> first | assumption | omega | trivial | decide) | (intros; simp only [ZE] at *; (repeat' refine And.intro ?_ ?_) <;> first | assumption | omega | trivial))) | refine And.intro (Ob.out ?_) ?_ | refine WP.block ?_ | (refine WP.cond rfl (fun hc => ?_) (fun hc => ?_) <;> (try simp only [ZC, reduceCtorEq, ZD] at hc) <;> (try exact absurd hc (by decide)) <;> (try (exfalso; omega))) | ((first | refine WP.skip ?_ | refine WP.exit ?_); simp only [SeqQ, BlkQ, LoopQ, BodyQ, ↓reduceIte, Nat.reduceEqDiff, reduceCtorEq, look, true_and]) | refine WP.ret (Sm.out ?_) | (first | refine ExG.no (Sm.out ?_) | refine Or.inl (ExG.no (Sm.out ?_)) | refine Or.inl (And.intro (fun hg => absurd hg (by decide)) (ExG.no (Sm.out ?_)))) | (refine Rt.mk ?_; refine And.intro ?_ ?_ <;> (intro hg; first | exact absurd hg (by decide) | refine Sm.out ?_)) | (refine Nu.mk ?_; first | (fail_if_success have := nb1); intro nb1 | (fail_if_success have := nb2); intro nb2 | (fail_if_success have := nb3); intro nb3 | (fail_if_success have := nb4); intro nb4 | (fail_if_success have := nb5); intro nb5 | (fail_if_success have := nb6); intro nb6 | (fail_if_success have := nb7); intro nb7 | (fail_if_success have := nb8); intro nb8 | intro nbz) | (refine Fr.mk ?_; intro hfr; (first | (have hFRb : _ ≤ _ ∧ _ ≤ _ := And.intro hfr.1 hfr.2.1) | (have hFRb : _ ≤ _ := hfr.1) | skip); replace FR := Sm.mk (And.intro hfr FR.out); clear hfr; refine Sm.out ?_) | refine Two.mk ?_ ?_ | (refine Cs.mk ?_; intro hcs; first | exact False.elim hcs | (exfalso; omega) | (refine Sm.out ?_)) | go_step | omega | (simp only [maxLen_eq]; omega)
  have c3 := del_c nb1 A2 (okA (by simp) (by simp) (by simp)) g2 0
  rw [st3] at c3
  simp only [kV0] at c3
  first | (have FRx := FR; clear FRx) | have FR := fr0S
  repeat' first | (refine Sm.mk ?_; try simp -dsimp only [ZK, rvc, drawF, headN, pureH, stp, dvc, calleeOf, gcall, pev, eff, newB, okd, og, ogs, ogo, ogp, slv, bltv, opd, litv, strip, one, both, putE, St.put, look, gdOf, gdv, picka, pickv, pickw, binv, bini, bins, binb, binp, binq, isSlT, bina, shp, eqCells, unv, convv, nilv, faddv, addp, idxav, idxp, load1, load1m, loadn, loadnm, loadv, hget, hset, hrep, hdel, slicev, slice3v, bnd, shift1, lenv, capv, IntKind.bits, extractv, fieldv, indexv, min2v, max2v, mkiv, tasv, tasz, cellsA, fillA, buildv, stC, oneC, rowMB, intsA, plN, appE, appZ, appC, appS, srcB, appNZ, appNC, VwL, srcC, srcZ, srcM, isBoolT, isPtrT, isSliceT, uOk, Value.oneCell', Nat.reducePow, Int.reducePow, Nat.reduceAdd, Nat.reduceMul, Nat.reduceSub, Nat.reduceLT, Nat.reduceLeDiff, Nat.reduceEqDiff, Nat.reduceBEq, Nat.reduceDiv, Nat.reduceMod, ↓reduceIte, reduceCtorEq, Int.reduceToNat, Int.reduceLT, Int.reduceLE, TFCnO, SeqQ, BlkQ, LoopQ, BodyQ, List.append_nil, FR.out]) | (refine CallV.exM (c3) (pmz _) (fun g3 => Sm.out ?_)) | refine WP.seq fun K hK => ?_ | ((fail_if_success (show WP _ _ _ (.region 5 _ _) _ _)); refine WP.region (rvc_sound _ _ (Sm.out ?_))) | ((fail_if_success (show WP _ _ _ (.region 5 _ _) _ _)); refine WP.drawK rfl mixed (by decide +kernel) (Sm.out ?_)) | (refine Ob.mk ?_; focus (first | assumption | omega | decide | trivial | (intro hob; simp only [hob, ZF]; done) | (intros; (repeat' refine And.intro ?_ ?_) <;> first | assumption | omega | trivial | decide) | (intros; simp only [ZE] at *; (repeat' refine And.intro ?_ ?_) <;> first | assumption | omega | trivial))) | refine And.intro (Ob.out ?_) ?_ | refine WP.block ?_ | (refine WP.cond rfl (fun hc => ?_) (fun hc => ?_) <;> (try simp only [ZC, reduceCtorEq, ZD] at hc) <;> (try exact absurd hc (by decide)) <;> (try (exfalso; omega))) | ((first | refine WP.skip ?_ | refine WP.exit ?_); simp only [SeqQ, BlkQ, LoopQ, BodyQ, ↓reduceIte, Nat.reduceEqDiff, reduceCtorEq, look, true_and]) | refine WP.ret (Sm.out ?_) | (first | refine ExG.no (Sm.out ?_) | refine Or.inl (ExG.no (Sm.out ?_)) | refine Or.inl (And.intro (fun hg => absurd hg (by decide)) (ExG.no (Sm.out ?_)))) | (refine Rt.mk ?_; refine And.intro ?_ ?_ <;> (intro hg; first | exact absurd hg (by decide) | refine Sm.out ?_)) | (refine Nu.mk ?_; first | (fail_if_success have := nb1); intro nb1 | (fail_if_success have := nb2); intro nb2 | (fail_if_success have := nb3); intro nb3 | (fail_if_success have := nb4); intro nb4 | (fail_if_success have := nb5); intro nb5 | (fail_if_success have := nb6); intro nb6 | (fail_if_success have := nb7); intro nb7 | (fail_if_success have := nb8); intro nb8 | intro nbz) | (refine Fr.mk ?_; intro hfr; (first | (have hFRb : _ ≤ _ ∧ _ ≤ _ := And.intro hfr.1 hfr.2.1) | (have hFRb : _ ≤ _ := hfr.1) | skip); replace FR := Sm.mk (And.intro hfr FR.out); clear hfr; refine Sm.out ?_) | refine Two.mk ?_ ?_ | (refine Cs.mk ?_; intro hcs; first | exact False.elim hcs | (exfalso; omega) | (refine Sm.out ?_)) | go_step | omega | (simp only [maxLen_eq]; omega)
  have c4 := del_c nb1 A3 (okA (by simp) (by simp) (by simp)) g3 0
  rw [st4] at c4
  simp only [kV0] at c4
  first | (have FRx := FR; clear FRx) | have FR := fr0S
  repeat' first | (refine Sm.mk ?_; try simp -dsimp only [ZK, rvc, drawF, headN, pureH, stp, dvc, calleeOf, gcall, pev, eff, newB, okd, og, ogs, ogo, ogp, slv, bltv, opd, litv, strip, one, both, putE, St.put, look, gdOf, gdv, picka, pickv, pickw, binv, bini, bins, binb, binp, binq, isSlT, bina, shp, eqCells, unv, convv, nilv, faddv, addp, idxav, idxp, load1, load1m, loadn, loadnm, loadv, hget, hset, hrep, hdel, slicev, slice3v, bnd, shift1, lenv, capv, IntKind.bits, extractv, fieldv, indexv, min2v, max2v, mkiv, tasv, tasz, cellsA, fillA, buildv, stC, oneC, rowMB, intsA, plN, appE, appZ, appC, appS, srcB, appNZ, appNC, VwL, srcC, srcZ, srcM, isBoolT, isPtrT, isSliceT, uOk, Value.oneCell', Nat.reducePow, Int.reducePow, Nat.reduceAdd, Nat.reduceMul, Nat.reduceSub, Nat.reduceLT, Nat.reduceLeDiff, Nat.reduceEqDiff, Nat.reduceBEq, Nat.reduceDiv, Nat.reduceMod, ↓reduceIte, reduceCtorEq, Int.reduceToNat, Int.reduceLT, Int.reduceLE, TFCnO, SeqQ, BlkQ, LoopQ, BodyQ, List.append_nil, FR.out]) | (refine CallV.exM (c4) (pmz _) (fun g4 => Sm.out ?_)) | refine WP.seq fun K hK => ?_ | ((fail_if_success (show WP _ _ _ (.region 6 _ _) _ _)); refine WP.region (rvc_sound _ _ (Sm.out ?_))) | ((fail_if_success (show WP _ _ _ (.region 6 _ _) _ _)); refine WP.drawK rfl mixed (by decide +kernel) (Sm.out ?_)) | (refine Ob.mk ?_; focus (first | assumption | omega | decide | trivial | (intro hob; simp only [hob, ZF]; done) | (intros; (repeat' refine And.intro ?_ ?_) <;> first | assumption | omega | trivial | decide) | (intros; simp only [ZE] at *; (repeat' refine And.intro ?_ ?_) <;> first | assumption | omega | trivial))) | refine And.intro (Ob.out ?_) ?_ | refine WP.block ?_ | (refine WP.cond rfl (fun hc => ?_) (fun hc => ?_) <;> (try simp only [ZC, reduceCtorEq, ZD] at hc) <;> (try exact absurd hc (by decide)) <;> (try (exfalso; omega))) | ((first | refine WP.skip ?_ | refine WP.exit ?_); simp only [SeqQ, BlkQ, LoopQ, BodyQ, ↓reduceIte, Nat.reduceEqDiff, reduceCtorEq, look, true_and]) | refine WP.ret (Sm.out ?_) | (first | refine ExG.no (Sm.out ?_) | refine Or.inl (ExG.no (Sm.out ?_)) | refine Or.inl (And.intro (fun hg => absurd hg (by decide)) (ExG.no (Sm.out ?_)))) | (refine Rt.mk ?_; refine And.intro ?_ ?_ <;> (intro hg; first | exact absurd hg (by decide) | refine Sm.out ?_)) | (refine Nu.mk ?_; first | (fail_if_success have := nb1); intro nb1 | (fail_if_success have := nb2); intro nb2 | (fail_if_success have := nb3); intro nb3 | (fail_if_success have := nb4); intro nb4 | (fail_if_success have := nb5); intro nb5 | (fail_if_success have := nb6); intro nb6 | (fail_if_success have := nb7); intro nb7 | (fail_if_success have := nb8); intro nb8 | intro nbz) | (refine Fr.mk ?_; intro hfr; (first | (have hFRb : _ ≤ _ ∧ _ ≤ _ := And.intro hfr.1 hfr.2.1) | (have hFRb : _ ≤ _ := hfr.1) | skip); replace FR := Sm.mk (And.intro hfr FR.out); clear hfr; refine Sm.out ?_) | refine Two.mk ?_ ?_ | (refine Cs.mk ?_; intro hcs; first | exact False.elim hcs | (exfalso; omega) | (refine Sm.out ?_)) | go_step | omega | (simp only [maxLen_eq]; omega)
  have c5 := flying_c nb1 A4 (okA (by simp) (by simp) (by simp)) g4
  have c6 := heard_c nb1 A4 (okA (by simp) (by simp) (by simp)) g4
  have e5 : flR A4.l = .sl 2 [bv true, .lit (.string sA), bv false, .sl 1 (kcs [k0]), bv true, .lit (.string sA), bv false, .sl 1 (kcs [k0])] := rfl
  have e6 : kV A4.h = .sl 1 (kcs [k0]) := rfl
  rw [e5] at c5
  rw [e6] at c6
  obtain ⟨K1, hK1⟩ : ∃ K, K = kcs [k0] := ⟨_, rfl⟩
  rw [← hK1] at c5 c6
  obtain ⟨G, hG⟩ : ∃ G, G = cH nb1 A4 g4.1 := ⟨_, rfl⟩
  rw [← hG] at c5 c6
  simp only [← hG]
  first | (have FRx := FR; clear FRx) | have FR := fr0S
  repeat' first | (refine Sm.mk ?_; try simp -dsimp only [ZK, rvc, drawF, headN, pureH, stp, dvc, calleeOf, gcall, pev, eff, newB, okd, og, ogs, ogo, ogp, slv, bltv, opd, litv, strip, one, both, putE, St.put, look, gdOf, gdv, picka, pickv, pickw, binv, bini, bins, binb, binp, binq, isSlT, bina, shp, eqCells, unv, convv, nilv, faddv, addp, idxav, idxp, load1, load1m, loadn, loadnm, loadv, hget, hset, hrep, hdel, slicev, slice3v, bnd, shift1, lenv, capv, IntKind.bits, extractv, fieldv, indexv, min2v, max2v, mkiv, tasv, tasz, cellsA, fillA, buildv, stC, oneC, rowMB, intsA, plN, appE, appZ, appC, appS, srcB, appNZ, appNC, VwL, srcC, srcZ, srcM, isBoolT, isPtrT, isSliceT, uOk, Value.oneCell', Nat.reducePow, Int.reducePow, Nat.reduceAdd, Nat.reduceMul, Nat.reduceSub, Nat.reduceLT, Nat.reduceLeDiff, Nat.reduceEqDiff, Nat.reduceBEq, Nat.reduceDiv, Nat.reduceMod, ↓reduceIte, reduceCtorEq, Int.reduceToNat, Int.reduceLT, Int.reduceLE, TFCnO, SeqQ, BlkQ, LoopQ, BodyQ, List.append_nil, FR.out]) | refine CallV.updM (c5) (pmz _) (Sm.out ?_) | (refine CallV.updM (c6) (pmz _) (Sm.out ?_)) | ((first | refine ExF.up ?_ (c6) (Sm.out ?_) | refine ExG.up ?_ (fun _ => c6) (Sm.out ?_) | refine ExG.upJ ?_ (fun _ => c6) (Sm.out ?_) | refine ExG.upI ?_ (fun _ => c6) (Ob.out ?_) (Sm.out ?_)); focus (exact ⟨_, (pmz _)⟩)) | refine WP.seq fun K hK => ?_ | refine WP.region (rvc_sound _ _ (Sm.out ?_)) | refine WP.drawK rfl mixed (by decide +kernel) (Sm.out ?_) | (refine Ob.mk ?_; focus (first | assumption | omega | decide | trivial | (intro hob; simp only [hob, ZF]; done) | (intros; (repeat' refine And.intro ?_ ?_) <;> first | assumption | omega | trivial | decide) | (intros; simp only [ZE] at *; (repeat' refine And.intro ?_ ?_) <;> first | assumption | omega | trivial))) | refine And.intro (Ob.out ?_) ?_ | refine WP.block ?_ | (refine WP.cond rfl (fun hc => ?_) (fun hc => ?_) <;> (try simp only [ZC, reduceCtorEq, ZD] at hc) <;> (try exact absurd hc (by decide)) <;> (try (exfalso; omega))) | ((first | refine WP.skip ?_ | refine WP.exit ?_); simp only [SeqQ, BlkQ, LoopQ, BodyQ, ↓reduceIte, Nat.reduceEqDiff, reduceCtorEq, look, true_and]) | refine WP.ret (Sm.out ?_) | (first | refine ExG.no (Sm.out ?_) | refine Or.inl (ExG.no (Sm.out ?_)) | refine Or.inl (And.intro (fun hg => absurd hg (by decide)) (ExG.no (Sm.out ?_)))) | (refine Rt.mk ?_; refine And.intro ?_ ?_ <;> (intro hg; first | exact absurd hg (by decide) | refine Sm.out ?_)) | (refine Nu.mk ?_; first | (fail_if_success have := nb1); intro nb1 | (fail_if_success have := nb2); intro nb2 | (fail_if_success have := nb3); intro nb3 | (fail_if_success have := nb4); intro nb4 | (fail_if_success have := nb5); intro nb5 | (fail_if_success have := nb6); intro nb6 | (fail_if_success have := nb7); intro nb7 | (fail_if_success have := nb8); intro nb8 | intro nbz) | (refine Fr.mk ?_; intro hfr; (first | (have hFRb : _ ≤ _ ∧ _ ≤ _ := And.intro hfr.1 hfr.2.1) | (have hFRb : _ ≤ _ := hfr.1) | skip); replace FR := Sm.mk (And.intro hfr FR.out); clear hfr; refine Sm.out ?_) | refine Two.mk ?_ ?_ | (refine Cs.mk ?_; intro hcs; first | exact False.elim hcs | (exfalso; omega) | (refine Sm.out ?_)) | go_step | omega | (simp only [maxLen_eq]; omega)
  (refine OutQ.all ?_ ?_; (focus (simp only [resv, ZK, look, loadv, loadn, loadnm, load1, load1m, hget, ↓reduceIte, Nat.reduceEqDiff, Nat.reduceAdd, Nat.reduceMul, Nat.reduceLeDiff, Nat.reduceLT, reduceCtorEq, TFCnO])); (try simp only [resv, resA, Fn, ZK, look, loadv, loadn, loadnm, load1, load1m, hget, ↓reduceIte, Nat.reduceEqDiff, Nat.reduceAdd, Nat.reduceMul, Nat.reduceLeDiff, Nat.reduceLT, reduceCtorEq, TFCnO]); (try simp [resA, Fn, look]))
abbrev keyTy : Ty := .st [.str, .str, .bool, .int .u64, .bool]
abbrev msgTy : Ty := .st [.str, .bool, .sl keyTy]
theorem ky_rows : ∀ (rows : List (List AV)), (∀ r ∈ rows, Shp keyTy r) → ∃ L : List Ky, L.length = rows.length ∧ rows.flatten = kcs L
  | [], _ => ⟨[], rfl, rfl⟩
  | r :: rows, h => by
    obtain ⟨L, l1, l2⟩ := ky_rows rows fun x hx => h x (List.mem_cons_of_mem _ hx)
    have h0 := h r (List.mem_cons_self ..)
    simp only [Shp, ShpL] at h0
    obtain ⟨_, _, rfl, ⟨a, rfl, ha⟩, _, _, rfl, ⟨b, rfl, hb⟩, _, _, rfl, ⟨c, rfl⟩, _, _, rfl, ⟨d, rfl, hd⟩, _, _, rfl, ⟨e, rfl⟩, rfl⟩ := h0
    exact ⟨⟨a, b, c, d, e⟩ :: L, by simp [l1], by simp [l2, kcs]⟩
theorem msg_shp {xs : List AV} (h : Shp msgTy xs) : ∃ m : Mg, xs = [.lit (.string m.g), bv m.p, .sl m.ks.length (kcs m.ks)] := by
  simp only [Shp, ShpL] at h
  obtain ⟨_, _, rfl, ⟨a, rfl, ha⟩, _, _, rfl, ⟨b, rfl⟩, _, _, rfl, ⟨rows, rfl, hr⟩, rfl⟩ := h
  obtain ⟨L, l1, l2⟩ := ky_rows rows fun r hr' => by
    have := hr r hr'
    simpa only [Shp, ShpL] using this
  exact ⟨⟨a, b, L⟩, by simp [l1, l2]⟩
theorem ACt.wkR {P : Program} {f : FuncId} {args : List AV} {F : Hp} {p q : AV → Hp → Prop} (h : ACt P f args F p) (hq : ∀ r F', p r F' → ∃ r', q r' F' ∧ ∀ w I v, Rep w I v r → Rep w I v r') : ACt P f args F q :=
  fun cx vs h1 h2 h3 h4 => (h cx vs h1 h2 h3 h4).mono fun e w' ⟨v, r, F', a, b, c, d⟩ => by
    obtain ⟨r', hq', hr'⟩ := hq r F' b
    exact ⟨v, r', F', a, hq', c, hr' _ _ _ d⟩
theorem rep_kV (ks : List Ky) {w : World} {I : Nat → Prop} {v : Value} (h : Rep w I v (kV ks)) : Rep w I v (.sl ks.length (kcs ks)) := by
  cases ks with
  | nil => exact Rep.nils h
  | cons k r => exact h
theorem rep_flR (l : List Pk) {w : World} {I : Nat → Prop} {v : Value} (h : Rep w I v (flR l)) : Rep w I v (.sl l.length (pcs l)) := by
  cases l with
  | nil => exact Rep.nils h
  | cons k r => exact h
theorem does_u (c : Nat) (a : CA) (ha : AOk a) (g : CS c a) (x : Ac) (hz : ∀ k ∈ x.m.ks, Kz k) : ACt Try.prog 9 [pt c 0, av x] (cH c a g.1) (fun r F' => ∃ g' : CS c (stA a x).1, r = .tup [.sl (stA a x).2.1.length (kcs (stA a x).2.1), iv .i64 (stA a x).2.2] ∧ F' = cH c (stA a x).1 g'.1) :=
  (does_ct c a ha g x hz).wkR fun r F' hr => by
    obtain ⟨g', e1, e2⟩ := hr
    subst e1
    refine ⟨_, ⟨g', rfl, e2⟩, fun w I v h => ?_⟩
    cases h with
    | tup vs cs hs r =>
      refine .tup _ _ hs fun i hi => ?_
      have hi2 : i < 2 := hi
      rcases (by omega : i = 0 ∨ i = 1) with rfl | rfl
      · exact rep_kV _ (r 0 (by simp))
      · exact r 1 (by simp)
theorem flying_u (c : Nat) (a : CA) (ha : AOk a) (g : CS c a) : ACt Try.prog 17 [pt c 0] (cH c a g.1) (fun r F' => r = .sl a.l.length (pcs a.l) ∧ F' = cH c a g.1) :=
  (flying_c c a ha g).wkR fun r F' hr => by
    obtain ⟨e1, e2⟩ := hr
    subst e1
    exact ⟨_, ⟨rfl, e2⟩, fun w I v h => rep_flR _ h⟩
theorem heard_u (c : Nat) (a : CA) (ha : AOk a) (g : CS c a) : ACt Try.prog 18 [pt c 0] (cH c a g.1) (fun r F' => r = .sl a.h.length (kcs a.h) ∧ F' = cH c a g.1) :=
  (heard_c c a ha g).wkR fun r F' hr => by
    obtain ⟨e1, e2⟩ := hr
    subst e1
    exact ⟨_, ⟨rfl, e2⟩, fun w I v h => rep_kV _ h⟩
theorem rdel_u (c : Nat) (a : CA) (ha : AOk a) (g : RS c a) (i : Int) : ACt Try.prog 11 [pt c 0, iv .i64 i] (rH c a g.1) (fun r F' => ∃ g' : RS c (dlv a i).1, r = .tup [.sl (dlv a i).2.1.length (kcs (dlv a i).2.1), iv .i64 (dlv a i).2.2] ∧ F' = rH c (dlv a i).1 g'.1) :=
  (rdel_c c a ha g i).wkR fun r F' hr => by
    obtain ⟨g', e1, e2⟩ := hr
    subst e1
    refine ⟨_, ⟨g', rfl, e2⟩, fun w I v h => ?_⟩
    cases h with
    | tup vs cs hs r =>
      refine .tup _ _ hs fun i hi => ?_
      have hi2 : i < 2 := hi
      rcases (by omega : i = 0 ∨ i = 1) with rfl | rfl
      · exact rep_kV _ (r 0 (by simp))
      · exact r 1 (by simp)
def TFCnQ :=
  And.intro (And.intro (And.intro (And.intro (And.intro (And.intro tyc0 (And.intro tyc3 zmb3)) (And.intro tyc4 (And.intro zmb4 tyc22))) (And.intro (And.intro elt22 (And.intro mkz22 mkc22)) (And.intro (And.intro apT22 elk22) (And.intro zmb22 tyc25)))) (And.intro (And.intro (And.intro mth25_31 (And.intro mth25_35 mth25_33)) (And.intro mth25_32 (And.intro con25 zmb25))) (And.intro (And.intro tyc27 (And.intro mth27_26 mth27_27)) (And.intro (And.intro con27 zmb27) (And.intro tyc28 elt28))))) (And.intro (And.intro (And.intro (And.intro mkz28 (And.intro mkc28 apT28)) (And.intro elk28 (And.intro zmb28 tyc29))) (And.intro (And.intro elt29 (And.intro mkz29 mkc29)) (And.intro (And.intro apT29 elk29) (And.intro zmb29 tyc30)))) (And.intro (And.intro (And.intro zmb30 (And.intro tyc32 foff32_0)) (And.intro (And.intro fpart32_0 foff32_1) (And.intro fpart32_1 foff32_2))) (And.intro (And.intro fpart32_2 (And.intro zmb32 bldT32)) (And.intro (And.intro tyc33 zmb33) (And.intro tyc34 tyc37)))))) (And.intro (And.intro (And.intro (And.intro (And.intro foff37_0 (And.intro fpart37_0 foff37_1)) (And.intro fpart37_1 (And.intro foff37_2 fpart37_2))) (And.intro (And.intro zmb37 (And.intro bldT37 tyc39)) (And.intro (And.intro foff39_0 fpart39_0) (And.intro foff39_1 fpart39_1)))) (And.intro (And.intro (And.intro foff39_2 (And.intro fpart39_2 zmb39)) (And.intro (And.intro bldT39 tyc50) (And.intro foff50_0 fpart50_0))) (And.intro (And.intro foff50_1 (And.intro fpart50_1 foff50_2)) (And.intro (And.intro fpart50_2 foff50_3) (And.intro fpart50_3 foff50_4))))) (And.intro (And.intro (And.intro (And.intro fpart50_4 (And.intro fe50 zmb50)) (And.intro bldT50 (And.intro tyc53 foff53_0))) (And.intro (And.intro fpart53_0 (And.intro foff53_1 fpart53_1)) (And.intro (And.intro zmb53 bldT53) (And.intro Try.underlying0 Try.underlying3)))) (And.intro (And.intro (And.intro Try.underlying4 (And.intro Try.underlying22 Try.underlying25)) (And.intro (And.intro Try.underlying27 Try.underlying28) (And.intro Try.underlying29 Try.underlying30))) (And.intro (And.intro Try.underlying32 (And.intro Try.underlying33 Try.underlying34)) (And.intro (And.intro Try.underlying37 Try.underlying39) (And.intro Try.underlying50 Try.underlying53))))))
theorem pm_len {a : CA} {t : Nat} (h : BOk t a) : ∀ p ∈ a.l, p.m.ks.length ≤ 100000 := fun p hp => by have := (h.m p hp).2.1; omega
theorem same_en : ACt Try.prog 14 [.sl 0 [], nsl] [] (Fn (bv true)) := by
  have h := same_ct [] [] 0 0 rfl rfl (by omega)
  rw [sameB_t rfl] at h
  exact h.view rfl ⟨.same _, .nils, trivial⟩
theorem psame_en : ACt Try.prog 16 [.sl 0 [], nsl] [] (Fn (bv true)) := by
  have h := psame_ct [] [] 0 0 rfl rfl (by omega) (by simp)
  rw [psB_t rfl] at h
  exact h.view rfl ⟨.same _, .nils, trivial⟩
theorem psame_s (x c : Nat) (l : List Pk) (n : Nat) (hn : l.length = n) (hl : n ≤ 100000) (hk : ∀ p ∈ l, p.m.ks.length ≤ 100000) (hc : n ≤ c ∧ c ≤ 9223372036854775807) :
    ACt Try.prog 16 [.sl n (pcs l), ms x 0 n c] [(x, .cells (pcs l) (c * 4) 53)] (fun r F' => r = bv true ∧ F' = [(x, .cells (pcs l) (c * 4) 53)]) := by
  have h := psame_ct l l n n hn hn hl hk
  rw [psB_t rfl] at h
  exact h.view rfl ⟨.same _, vw_row hc.1 (by rw [maxLen_eq]; omega), trivial⟩
theorem same_s (x c : Nat) (l : List Ky) (n : Nat) (hn : l.length = n) (hl : n ≤ 100000) (hc : n ≤ c ∧ c ≤ 9223372036854775807) :
    ACt Try.prog 14 [.sl n (kcs l), ms x 0 n c] [(x, .cells (kcs l) (c * 5) 50)] (fun r F' => r = bv true ∧ F' = [(x, .cells (kcs l) (c * 5) 50)]) := by
  have h := same_ct l l n n hn hn hl
  rw [sameB_t rfl] at h
  exact h.view rfl ⟨.same _, vw_row hc.1 (by rw [maxLen_eq]; omega), trivial⟩
structure PlG (c m : Nat) where
  i : Nat
  a : CA
  g : CS c a
  r : RS m a
def bH (c m : Nat) (a : CA) (i j : CI) : Hp := (m, rM (fV a.l.length j.1) (hV a.h j.2) (iv .u64 a.n)) :: (gB a.l j.1 ++ (hB a.h j.2 ++ cH c a i))
theorem bH_rc (c m : Nat) (a : CA) (i j : CI) : List.Perm (rH m a j ++ cH c a i) (bH c m a i j) := by
  unfold rH bH
  rw [List.cons_append, List.append_assoc]
theorem dlv_told {a : CA} {t : Nat} (h : BOk t a) (i : Int) : (dlv a i).2.1.length ≤ 100000 := by
  unfold dlv
  split
  · split
    · have := (h.m _ (List.getElem_mem (show i.toNat < a.l.length by omega))).2.1
      simp only; omega
    · simp
  · simp
theorem pt1 {α : Type} (a : α) (G : List α) : List.Perm (a :: G) (G ++ [a]) := List.perm_append_comm (l₁ := [a]) (l₂ := G)
theorem pt2 {α : Type} (a b : α) (G : List α) : List.Perm (a :: b :: G) (G ++ [a, b]) := List.perm_append_comm (l₁ := [a, b]) (l₂ := G)
theorem pt3 {α : Type} (a b c : α) (G : List α) : List.Perm (a :: b :: c :: G) (G ++ [a, b, c]) := List.perm_append_comm (l₁ := [a, b, c]) (l₂ := G)
theorem pv3 {α : Type} (a b c : α) (G : List α) : List.Perm (a :: b :: c :: G) ([c] ++ (a :: b :: G)) := by
  have h1 : List.Perm (b :: c :: G) (c :: b :: G) := List.Perm.swap _ _ _
  exact (List.Perm.cons a h1).trans (List.Perm.swap _ _ _)
theorem px {α : Type} (A B : List α) : List.Perm (A ++ B) (B ++ A) := List.perm_append_comm
set_option maxHeartbeats 8000000 in
set_option maxRecDepth 8000 in
theorem plays_ct (L : List Ac) (n : Nat) (hn : L.length = n) : ACt Try.prog 3 [.sl n (acs L)] [] (fun r _ => r = bv true) := by
  have cA := awake_ct
  have cL := long_ct L n hn
  have hCl := acs_len L
  have hdr := acs_drop L
  rw [hn] at hCl
  obtain ⟨C, hC⟩ : ∃ C, C = acs L := ⟨_, rfl⟩
  rw [← hC] at cL hCl hdr ⊢
  cases hlg : lgB L with
  | true =>
    rw [hlg] at cL
    refine ACt.intro Try.func3 rfl (by kernel_rfl) (by simp [Try.ntmps3]) (fun cx => ?_)
    simp only [argE, Try.ntmps3, Try.results3]
    first | (have FRx := FR; clear FRx) | have FR := fr0S
    repeat' first | (refine Sm.mk ?_; try simp -dsimp only [ZK, rvc, drawF, headN, pureH, stp, dvc, calleeOf, gcall, pev, eff, newB, okd, og, ogs, ogo, ogp, slv, bltv, opd, litv, strip, one, both, putE, St.put, look, gdOf, gdv, picka, pickv, pickw, binv, bini, bins, binb, binp, binq, isSlT, bina, shp, eqCells, unv, convv, nilv, faddv, addp, idxav, idxp, load1, load1m, loadn, loadnm, loadv, hget, hset, hrep, hdel, slicev, slice3v, bnd, shift1, lenv, capv, IntKind.bits, extractv, fieldv, indexv, min2v, max2v, mkiv, tasv, tasz, cellsA, fillA, buildv, stC, oneC, rowMB, intsA, plN, appE, appZ, appC, appS, srcB, appNZ, appNC, VwL, srcC, srcZ, srcM, isBoolT, isPtrT, isSliceT, uOk, Value.oneCell', Nat.reducePow, Int.reducePow, Nat.reduceAdd, Nat.reduceMul, Nat.reduceSub, Nat.reduceLT, Nat.reduceLeDiff, Nat.reduceEqDiff, Nat.reduceBEq, Nat.reduceDiv, Nat.reduceMod, ↓reduceIte, reduceCtorEq, Int.reduceToNat, Int.reduceLT, Int.reduceLE, TFCnQ, SeqQ, BlkQ, LoopQ, BodyQ, FR.out]) | (first | refine CallV.fn (cA) (Sm.out ?_) | refine ExF.mk (cA) (Sm.out ?_) | refine ExG.mk (fun _ => cA) (Sm.out ?_) | refine ExG.mkJ (fun _ => cA) (Sm.out ?_) | refine ExG.mkI (Ob.out ?_) (fun _ => cA) (Sm.out ?_)) | (first | refine CallV.fn (cL) (Sm.out ?_) | refine ExF.mk (cL) (Sm.out ?_) | refine ExG.mk (fun _ => cL) (Sm.out ?_) | refine ExG.mkJ (fun _ => cL) (Sm.out ?_) | refine ExG.mkI (Ob.out ?_) (fun _ => cL) (Sm.out ?_)) | refine WP.seq fun K hK => ?_ | refine WP.region (rvc_sound _ _ (Sm.out ?_)) | refine WP.drawK rfl mixed (by decide +kernel) (Sm.out ?_) | (refine Ob.mk ?_; focus (first | assumption | omega | decide | trivial | (intro hob; simp only [hob, ZF]; done) | (intros; (repeat' refine And.intro ?_ ?_) <;> first | assumption | omega | trivial | decide) | (intros; simp only [ZE] at *; (repeat' refine And.intro ?_ ?_) <;> first | assumption | omega | trivial))) | refine And.intro (Ob.out ?_) ?_ | refine WP.block ?_ | (refine WP.cond rfl (fun hc => ?_) (fun hc => ?_) <;> (try simp only [ZC, reduceCtorEq, ZD] at hc) <;> (try exact absurd hc (by decide)) <;> (try (exfalso; omega))) | ((first | refine WP.skip ?_ | refine WP.exit ?_); simp only [SeqQ, BlkQ, LoopQ, BodyQ, ↓reduceIte, Nat.reduceEqDiff, reduceCtorEq, look, true_and]) | refine WP.ret (Sm.out ?_) | (first | refine ExG.no (Sm.out ?_) | refine Or.inl (ExG.no (Sm.out ?_)) | refine Or.inl (And.intro (fun hg => absurd hg (by decide)) (ExG.no (Sm.out ?_)))) | (refine Rt.mk ?_; refine And.intro ?_ ?_ <;> (intro hg; first | exact absurd hg (by decide) | refine Sm.out ?_)) | (refine Nu.mk ?_; first | (fail_if_success have := nb1); intro nb1 | (fail_if_success have := nb2); intro nb2 | (fail_if_success have := nb3); intro nb3 | (fail_if_success have := nb4); intro nb4 | (fail_if_success have := nb5); intro nb5 | (fail_if_success have := nb6); intro nb6 | intro nbz) | (refine Fr.mk ?_; intro hfr; (first | (have hFRb : _ ≤ _ ∧ _ ≤ _ := And.intro hfr.1 hfr.2.1) | (have hFRb : _ ≤ _ := hfr.1) | skip); replace FR := Sm.mk (And.intro hfr FR.out); clear hfr; refine Sm.out ?_) | refine Two.mk ?_ ?_ | (refine Cs.mk ?_; intro hcs; first | exact False.elim hcs | (exfalso; omega) | (refine Sm.out ?_)) | go_step | omega | (simp only [maxLen_eq]; omega) | (refine Or.inr (Rt.mk ?_); refine And.intro ?_ ?_ <;> (intro hg; first | exact absurd hg (by decide) | refine Sm.out ?_))
    (refine OutQ.all ?_ ?_; (focus (simp only [resv, ZK, look, loadv, loadn, loadnm, load1, load1m, hget, ↓reduceIte, Nat.reduceEqDiff, Nat.reduceAdd, Nat.reduceMul, Nat.reduceLeDiff, Nat.reduceLT, reduceCtorEq, TFCnQ])); (try simp only [resv, resA, Fn, ZK, look, loadv, loadn, loadnm, load1, load1m, hget, ↓reduceIte, Nat.reduceEqDiff, Nat.reduceAdd, Nat.reduceMul, Nat.reduceLeDiff, Nat.reduceLT, reduceCtorEq, TFCnQ]); (try simp [resA, Fn, look]))
  | false =>
    rw [hlg] at cL
    have hok := lgB_ok hlg
    have hL150 := hok.n
    have cN := new_ct
    refine ACt.intro Try.func3 rfl (by kernel_rfl) (by simp [Try.ntmps3]) (fun cx => ?_)
    simp only [argE, Try.ntmps3, Try.results3]
    first | (have FRx := FR; clear FRx) | have FR := fr0S
    repeat' first | (refine Sm.mk ?_; try simp -dsimp only [ZK, rvc, drawF, headN, pureH, stp, dvc, calleeOf, gcall, pev, eff, newB, okd, og, ogs, ogo, ogp, slv, bltv, opd, litv, strip, one, both, putE, St.put, look, gdOf, gdv, picka, pickv, pickw, binv, bini, bins, binb, binp, binq, isSlT, bina, shp, eqCells, unv, convv, nilv, faddv, addp, idxav, idxp, load1, load1m, loadn, loadnm, loadv, hget, hset, hrep, hdel, slicev, slice3v, bnd, shift1, lenv, capv, IntKind.bits, extractv, fieldv, indexv, min2v, max2v, mkiv, tasv, tasz, cellsA, fillA, buildv, stC, oneC, rowMB, intsA, plN, appE, appZ, appC, appS, srcB, appNZ, appNC, VwL, srcC, srcZ, srcM, isBoolT, isPtrT, isSliceT, uOk, Value.oneCell', Nat.reducePow, Int.reducePow, Nat.reduceAdd, Nat.reduceMul, Nat.reduceSub, Nat.reduceLT, Nat.reduceLeDiff, Nat.reduceEqDiff, Nat.reduceBEq, Nat.reduceDiv, Nat.reduceMod, ↓reduceIte, reduceCtorEq, Int.reduceToNat, Int.reduceLT, Int.reduceLE, TFCnQ, SeqQ, BlkQ, LoopQ, BodyQ, List.append_nil, FR.out]) | (first | refine CallV.fn (cA) (Sm.out ?_) | refine ExF.mk (cA) (Sm.out ?_) | refine ExG.mk (fun _ => cA) (Sm.out ?_) | refine ExG.mkJ (fun _ => cA) (Sm.out ?_) | refine ExG.mkI (Ob.out ?_) (fun _ => cA) (Sm.out ?_)) | (first | refine CallV.fn (cL) (Sm.out ?_) | refine ExF.mk (cL) (Sm.out ?_) | refine ExG.mk (fun _ => cL) (Sm.out ?_) | refine ExG.mkJ (fun _ => cL) (Sm.out ?_) | refine ExG.mkI (Ob.out ?_) (fun _ => cL) (Sm.out ?_)) | refine CallV.new1 (F := []) (List.Perm.refl _) (cN) rfl (Sm.out ?_) | refine WP.seq fun K hK => ?_ | refine WP.region (rvc_sound _ _ (Sm.out ?_)) | refine WP.drawK rfl mixed (by decide +kernel) (Sm.out ?_) | (refine Ob.mk ?_; focus (first | assumption | omega | decide | trivial | (intro hob; simp only [hob, ZF]; done) | (intros; (repeat' refine And.intro ?_ ?_) <;> first | assumption | omega | trivial | decide) | (intros; simp only [ZE] at *; (repeat' refine And.intro ?_ ?_) <;> first | assumption | omega | trivial))) | refine And.intro (Ob.out ?_) ?_ | refine WP.block ?_ | (refine WP.cond rfl (fun hc => ?_) (fun hc => ?_) <;> (try simp only [ZC, reduceCtorEq, ZD] at hc) <;> (try exact absurd hc (by decide)) <;> (try (exfalso; omega))) | ((first | refine WP.skip ?_ | refine WP.exit ?_); simp only [SeqQ, BlkQ, LoopQ, BodyQ, ↓reduceIte, Nat.reduceEqDiff, reduceCtorEq, look, true_and]) | refine WP.ret (Sm.out ?_) | (first | refine ExG.no (Sm.out ?_) | refine Or.inl (ExG.no (Sm.out ?_)) | refine Or.inl (And.intro (fun hg => absurd hg (by decide)) (ExG.no (Sm.out ?_)))) | (refine Rt.mk ?_; refine And.intro ?_ ?_ <;> (intro hg; first | exact absurd hg (by decide) | refine Sm.out ?_)) | (refine Nu.mk ?_; first | (fail_if_success have := nb1); intro nb1 | (fail_if_success have := nb2); intro nb2 | (fail_if_success have := nb3); intro nb3 | (fail_if_success have := nb4); intro nb4 | (fail_if_success have := nb5); intro nb5 | (fail_if_success have := nb6); intro nb6 | intro nbz) | (refine Fr.mk ?_; intro hfr; (first | (have hFRb : _ ≤ _ ∧ _ ≤ _ := And.intro hfr.1 hfr.2.1) | (have hFRb : _ ≤ _ := hfr.1) | skip); replace FR := Sm.mk (And.intro hfr FR.out); clear hfr; refine Sm.out ?_) | refine Two.mk ?_ ?_ | (refine Cs.mk ?_; intro hcs; first | exact False.elim hcs | (exfalso; omega) | (refine Sm.out ?_)) | go_step | omega | (simp only [maxLen_eq]; omega) | (refine Or.inr (Rt.mk ?_); refine And.intro ?_ ?_ <;> (intro hg; first | exact absurd hg (by decide) | refine Sm.out ?_))
    have hr0 : rH nb2 A0 (none, (0, 0)) = [(nb2, rM nsl nsl (iv .u64 0))] := rfl
    refine WP.loop (Γ := PlG nb1 nb2) (fun t => ⟨[(5, iv .i64 (t.i : Int)), (4, pt nb2 0), (3, pt nb1 0), (0, .sl n C)], rH nb2 t.a t.r.1 ++ cH nb1 t.a t.g.1⟩)
      (fun t => t.i ≤ n ∧ BOk t.i t.a) (fun t => n - t.i) ⟨0, A0, g0 nb1, ⟨(none, (0, 0)), by simp [rH, gB, hB], ⟨fun _ => rfl, fun q hq => (by cases hq), fun h => absurd rfl h⟩⟩⟩ ⟨Nat.zero_le _, by simp, by simp, by simp⟩ (Sub.of_env [] (pmz _) (by simp [look])) ?_
    intro ⟨i, a, g, r⟩ ⟨hi, hb⟩
    simp only at hi hb ⊢
    have FR : Sm (¬ ((1 : Nat) = 0)) := Sm.mk Nat.one_ne_zero
    by_cases hin : i < n
    case neg =>
      have ki : decide ((i : Int) < (n : Int)) = false := decide_eq_false (by omega)
      first | (have FRx := FR; clear FRx) | have FR := fr0S
      repeat' first | (refine Sm.mk ?_; try simp -dsimp only [ZK, rvc, drawF, headN, pureH, stp, dvc, calleeOf, gcall, pev, eff, newB, okd, og, ogs, ogo, ogp, slv, bltv, opd, litv, strip, one, both, putE, St.put, look, gdOf, gdv, picka, pickv, pickw, binv, bini, bins, binb, binp, binq, isSlT, bina, shp, eqCells, unv, convv, nilv, faddv, addp, idxav, idxp, load1, load1m, loadn, loadnm, loadv, hget, hset, hrep, hdel, slicev, slice3v, bnd, shift1, lenv, capv, IntKind.bits, extractv, fieldv, indexv, min2v, max2v, mkiv, tasv, tasz, cellsA, fillA, buildv, stC, oneC, rowMB, intsA, plN, appE, appZ, appC, appS, srcB, appNZ, appNC, VwL, srcC, srcZ, srcM, isBoolT, isPtrT, isSliceT, uOk, Value.oneCell', Nat.reducePow, Int.reducePow, Nat.reduceAdd, Nat.reduceMul, Nat.reduceSub, Nat.reduceLT, Nat.reduceLeDiff, Nat.reduceEqDiff, Nat.reduceBEq, Nat.reduceDiv, Nat.reduceMod, ↓reduceIte, reduceCtorEq, Int.reduceToNat, Int.reduceLT, Int.reduceLE, TFCnQ, SeqQ, BlkQ, LoopQ, BodyQ, ki, FR.out]) | refine WP.seq fun K hK => ?_ | refine WP.region (rvc_sound _ _ (Sm.out ?_)) | refine WP.drawK rfl mixed (by decide +kernel) (Sm.out ?_) | (refine Ob.mk ?_; focus (first | assumption | omega | decide | trivial | (intro hob; simp only [hob, ZF]; done) | (intros; (repeat' refine And.intro ?_ ?_) <;> first | assumption | omega | trivial | decide) | (intros; simp only [ZE] at *; (repeat' refine And.intro ?_ ?_) <;> first | assumption | omega | trivial))) | refine And.intro (Ob.out ?_) ?_ | refine WP.block ?_ | (refine WP.cond rfl (fun hc => ?_) (fun hc => ?_) <;> (try simp only [ZC, reduceCtorEq, ZD] at hc) <;> (try exact absurd hc (by decide)) <;> (try (exfalso; omega))) | ((first | refine WP.skip ?_ | refine WP.exit ?_); simp only [SeqQ, BlkQ, LoopQ, BodyQ, ↓reduceIte, Nat.reduceEqDiff, reduceCtorEq, look, true_and]) | refine WP.ret (Sm.out ?_) | (first | refine ExG.no (Sm.out ?_) | refine Or.inl (ExG.no (Sm.out ?_)) | refine Or.inl (And.intro (fun hg => absurd hg (by decide)) (ExG.no (Sm.out ?_)))) | (refine Rt.mk ?_; refine And.intro ?_ ?_ <;> (intro hg; first | exact absurd hg (by decide) | refine Sm.out ?_)) | (refine Nu.mk ?_; first | (fail_if_success have := nb1); intro nb1 | (fail_if_success have := nb2); intro nb2 | (fail_if_success have := nb3); intro nb3 | (fail_if_success have := nb4); intro nb4 | (fail_if_success have := nb5); intro nb5 | (fail_if_success have := nb6); intro nb6 | intro nbz) | (refine Fr.mk ?_; intro hfr; (first | (have hFRb : _ ≤ _ ∧ _ ≤ _ := And.intro hfr.1 hfr.2.1) | (have hFRb : _ ≤ _ := hfr.1) | skip); replace FR := Sm.mk (And.intro hfr FR.out); clear hfr; refine Sm.out ?_) | refine Two.mk ?_ ?_ | (refine Cs.mk ?_; intro hcs; first | exact False.elim hcs | (exfalso; omega) | (refine Sm.out ?_)) | go_step | omega | (simp only [maxLen_eq]; omega) | (refine Or.inr (Rt.mk ?_); refine And.intro ?_ ?_ <;> (intro hg; first | exact absurd hg (by decide) | refine Sm.out ?_))
      (refine OutQ.all ?_ ?_; (focus (simp only [resv, ZK, look, loadv, loadn, loadnm, load1, load1m, hget, ↓reduceIte, Nat.reduceEqDiff, Nat.reduceAdd, Nat.reduceMul, Nat.reduceLeDiff, Nat.reduceLT, reduceCtorEq, TFCnQ])); (try simp only [resv, resA, Fn, ZK, look, loadv, loadn, loadnm, load1, load1m, hget, ↓reduceIte, Nat.reduceEqDiff, Nat.reduceAdd, Nat.reduceMul, Nat.reduceLeDiff, Nat.reduceLT, reduceCtorEq, TFCnQ]); (try simp [resA, Fn, look]))
    have ki : decide ((i : Int) < (n : Int)) = true := decide_eq_true (by omega)
    have s1 : IntKind.i64.wrap ((i : Int) + 1) = ((i + 1 : Nat) : Int) := by rw [wrap_i64 (by omega) (by omega)]; omega
    have t1 : ∀ q : Nat, ((q : Nat) : Int).toNat = q := fun q => by omega
    have hd := hdr i (by omega)
    have hxk := hok.a _ (List.getElem_mem (show i < L.length by omega))
    obtain ⟨x, hx⟩ : ∃ x, x = L[i]'(by omega) := ⟨_, rfl⟩
    rw [← hx] at hd hxk
    clear hx
    have hao := hb.to (by omega)
    have hz := hxk.2.2
    have cD := does_u nb1 a hao g x hz
    have c1 := rpost_c nb2 a hao r x.m hz
    have c2 := rdel_u nb2 a hao r x.i
    have c3 := rlose_c nb2 a hao r x.i
    have c4 := rdbl_c nb2 a hao r x.i
    have hb1 := hb.step x
    have htd := dlv_told hb x.i
    have q1 : (i + 1) * 5 ≤ C.length := by omega
    have hst : stA a x = if x.kd = 1 then ((pst a x.m).1, ([], (pst a x.m).2)) else if x.kd = 2 then dlv a x.i else if x.kd = 3 then ((lse a x.i).1, ([], (lse a x.i).2)) else if x.kd = 4 then ((dbl a x.i).1, ([], (dbl a x.i).2)) else (a, ([], 0)) := rfl
    obtain ⟨S, hS⟩ : ∃ S, S = stA a x := ⟨_, rfl⟩
    rw [← hS] at cD hb1 hst
    clear hS
    obtain ⟨kd, xi, m⟩ := x
    simp only at cD c1 c2 c3 c4 hst hd htd
    unfold av at cD
    simp only at cD
    unfold mv at c1
    obtain ⟨q, hq⟩ : ∃ n, n = m.ks.length := ⟨_, rfl⟩
    obtain ⟨K1, hK1⟩ : ∃ C, C = kcs m.ks := ⟨_, rfl⟩
    rw [← hq, ← hK1] at cD c1 hd
    clear hq hK1 hxk hz hdr cL cA
    have hao1 := hb1.to (show i + 1 ≤ 1000 by omega)
    obtain ⟨⟨l, h, nn⟩, told, code⟩ := S
    simp only at cD hb1 hao1
    have kcode : (code != code) = false := by simp
    obtain ⟨Gr, hGr⟩ : ∃ Gr, Gr = rH nb2 a r.1 := ⟨_, rfl⟩
    rw [← hGr] at c1 c2 c3 c4 ⊢
    have htl := kcs_len told
    have htn100 : told.length ≤ 100000 := by
      by_cases hk : kd = 2
      · rw [if_neg (by omega), if_pos hk] at hst
        rw [← hst] at htd
        exact htd
      · have : told = [] := by
          by_cases h1 : kd = 1
          · rw [if_pos h1] at hst; exact congrArg (fun s : CA × (List Ky × Int) => s.2.1) hst
          rw [if_neg h1, if_neg hk] at hst
          by_cases h3 : kd = 3
          · rw [if_pos h3] at hst; exact congrArg (fun s : CA × (List Ky × Int) => s.2.1) hst
          rw [if_neg h3] at hst
          by_cases h4 : kd = 4
          · rw [if_pos h4] at hst; exact congrArg (fun s : CA × (List Ky × Int) => s.2.1) hst
          rw [if_neg h4] at hst; exact congrArg (fun s : CA × (List Ky × Int) => s.2.1) hst
        rw [this]; simp
    have cS := same_ct told told _ _ rfl rfl htn100
    rw [sameB_t rfl] at cS
    have ht0 : kd ≠ 2 → told.length = 0 ∧ kcs told = [] := fun hk => by
      have : told = [] := by
        by_cases h1 : kd = 1
        · rw [if_pos h1] at hst; exact congrArg (fun s : CA × (List Ky × Int) => s.2.1) hst
        rw [if_neg h1, if_neg hk] at hst
        by_cases h3 : kd = 3
        · rw [if_pos h3] at hst; exact congrArg (fun s : CA × (List Ky × Int) => s.2.1) hst
        rw [if_neg h3] at hst
        by_cases h4 : kd = 4
        · rw [if_pos h4] at hst; exact congrArg (fun s : CA × (List Ky × Int) => s.2.1) hst
        rw [if_neg h4] at hst; exact congrArg (fun s : CA × (List Ky × Int) => s.2.1) hst
      rw [this]; exact ⟨rfl, rfl⟩
    have hst2 : kd = 2 → dlv a xi = ((⟨l, h, nn⟩ : CA), (told, code)) := fun hk => by
      rw [if_neg (by omega), if_pos hk] at hst; exact hst.symm
    obtain ⟨tn, htn⟩ : ∃ tn, tn = told.length := ⟨_, rfl⟩
    obtain ⟨TT, hTT⟩ : ∃ TT, TT = kcs told := ⟨_, rfl⟩
    rw [← htn, ← hTT] at cD cS ht0
    first | (have FRx := FR; clear FRx) | have FR := fr0S
    repeat' first | (refine Sm.mk ?_; try simp -dsimp only [ZK, rvc, drawF, headN, pureH, stp, dvc, calleeOf, gcall, pev, eff, newB, okd, og, ogs, ogo, ogp, slv, bltv, opd, litv, strip, one, both, putE, St.put, look, gdOf, gdv, picka, pickv, pickw, binv, bini, bins, binb, binp, binq, isSlT, bina, shp, eqCells, unv, convv, nilv, faddv, addp, idxav, idxp, load1, load1m, loadn, loadnm, loadv, hget, hset, hrep, hdel, slicev, slice3v, bnd, shift1, lenv, capv, IntKind.bits, extractv, fieldv, indexv, min2v, max2v, mkiv, tasv, tasz, cellsA, fillA, buildv, stC, oneC, rowMB, intsA, plN, appE, appZ, appC, appS, srcB, appNZ, appNC, VwL, srcC, srcZ, srcM, isBoolT, isPtrT, isSliceT, uOk, Value.oneCell', Nat.reducePow, Int.reducePow, Nat.reduceAdd, Nat.reduceMul, Nat.reduceSub, Nat.reduceLT, Nat.reduceLeDiff, Nat.reduceEqDiff, Nat.reduceBEq, Nat.reduceDiv, Nat.reduceMod, ↓reduceIte, reduceCtorEq, Int.reduceToNat, Int.reduceLT, Int.reduceLE, TFCnQ, SeqQ, BlkQ, LoopQ, BodyQ, ki, hd, q1, hin, t1, s1, List.append_nil, FR.out]) | (refine CallV.exM (cD) (px _ _) (fun h1 => Sm.out ?_)) | refine WP.seq fun K hK => ?_ | ((fail_if_success (show WP _ _ _ (.region 12 _ _) _ _)); refine WP.region (rvc_sound _ _ (Sm.out ?_))) | ((fail_if_success (show WP _ _ _ (.region 12 _ _) _ _)); refine WP.drawK rfl mixed (by decide +kernel) (Sm.out ?_)) | (refine Ob.mk ?_; focus (first | assumption | omega | decide | trivial | (intro hob; simp only [hob, ZF]; done) | (intros; (repeat' refine And.intro ?_ ?_) <;> first | assumption | omega | trivial | decide) | (intros; simp only [ZE] at *; (repeat' refine And.intro ?_ ?_) <;> first | assumption | omega | trivial))) | refine And.intro (Ob.out ?_) ?_ | refine WP.block ?_ | (refine WP.cond rfl (fun hc => ?_) (fun hc => ?_) <;> (try simp only [ZC, reduceCtorEq, ZD] at hc) <;> (try exact absurd hc (by decide)) <;> (try (exfalso; omega))) | ((first | refine WP.skip ?_ | refine WP.exit ?_); simp only [SeqQ, BlkQ, LoopQ, BodyQ, ↓reduceIte, Nat.reduceEqDiff, reduceCtorEq, look, true_and]) | refine WP.ret (Sm.out ?_) | (first | refine ExG.no (Sm.out ?_) | refine Or.inl (ExG.no (Sm.out ?_)) | refine Or.inl (And.intro (fun hg => absurd hg (by decide)) (ExG.no (Sm.out ?_)))) | (refine Rt.mk ?_; refine And.intro ?_ ?_ <;> (intro hg; first | exact absurd hg (by decide) | refine Sm.out ?_)) | (refine Nu.mk ?_; first | (fail_if_success have := nb1); intro nb1 | (fail_if_success have := nb2); intro nb2 | (fail_if_success have := nb3); intro nb3 | (fail_if_success have := nb4); intro nb4 | (fail_if_success have := nb5); intro nb5 | (fail_if_success have := nb6); intro nb6 | intro nbz) | (refine Fr.mk ?_; intro hfr; (first | (have hFRb : _ ≤ _ ∧ _ ≤ _ := And.intro hfr.1 hfr.2.1) | (have hFRb : _ ≤ _ := hfr.1) | skip); replace FR := Sm.mk (And.intro hfr FR.out); clear hfr; refine Sm.out ?_) | refine Two.mk ?_ ?_ | (refine Cs.mk ?_; intro hcs; first | exact False.elim hcs | (exfalso; omega) | (refine Sm.out ?_)) | go_step | omega | (simp only [maxLen_eq]; omega) | (refine Or.inr (Rt.mk ?_); refine And.intro ?_ ?_ <;> (intro hg; first | exact absurd hg (by decide) | refine Sm.out ?_))
    rename_i K2 hK2
    have cont : Sm (∀ (r' : RS nb2 ⟨l, h, nn⟩), ∀ s', Sub s' ⟨[(9, iv .i64 code), (8, .sl tn TT), (7, iv .i64 code), (6, .sl tn TT), (5, iv .i64 (i : Int)), (4, pt nb2 0), (3, pt nb1 0), (0, .sl n C)], bH nb1 nb2 ⟨l, h, nn⟩ h1.1 r'.1⟩ → K2 s') := Sm.mk fun r' s' hs => by
      refine hK2 s' (WP.sub hs ?_)
      clear hK2 hs
      have hf0 := r'.2.2.1
      have hf1 := r'.2.2.2.1
      have hh1 := r'.2.2.2.2
      have c15 := lost_c nb1 ⟨l, h, nn⟩ h1.1
      have c17 := flying_u nb1 ⟨l, h, nn⟩ hao1 h1
      have c18 := heard_u nb1 ⟨l, h, nn⟩ hao1 h1
      have hPm := (bH_rc nb1 nb2 ⟨l, h, nn⟩ h1.1 r'.1).symm
      obtain ⟨RR, hRR⟩ : ∃ RR, RR = rH nb2 ⟨l, h, nn⟩ r'.1 ++ cH nb1 ⟨l, h, nn⟩ h1.1 := ⟨_, rfl⟩
      rw [← hRR] at hPm
      unfold bH at hPm ⊢
      obtain ⟨G, hG⟩ : ∃ G, G = cH nb1 ⟨l, h, nn⟩ h1.1 := ⟨_, rfl⟩
      rw [← hG] at hPm c15 c17 c18 ⊢
      clear hG
      obtain ⟨fo, hfo⟩ : ∃ fo, fo = r'.1.1 := ⟨_, rfl⟩
      obtain ⟨qq, hqq⟩ : ∃ qq, qq = r'.1.2 := ⟨_, rfl⟩
      rw [← hfo] at hf0 hf1 hPm ⊢
      rw [← hqq] at hh1 hPm ⊢
      clear hfo hqq
      simp only at hf0 hf1 hh1 hPm c15 c17 c18 ⊢
      have hll := hb1.l
      have hpm := pm_len hb1
      have hhl := hao1.h
      simp only at hll hpm hhl
      have y1 : ∀ x : Int, (x != x) = false := fun x => by simp
      have FR : Sm (¬ ((1 : Nat) = 0)) := Sm.mk Nat.one_ne_zero
      cases fo with
      | none =>
        have hl0 := hf0 rfl
        subst hl0
        have el : ([] : List Pk).length = 0 := rfl
        have ep : pcs [] = [] := rfl
        rw [el, ep] at c17
        by_cases hh0 : h = []
        · subst hh0
          have e1 : ([] : List Ky).length = 0 := rfl
          have e2 : kcs [] = [] := rfl
          have eV : hV [] qq = nsl := rfl
          have eB : hB [] qq = [] := rfl
          rw [e1, e2] at c18
          rw [eV, eB] at hPm ⊢
          simp only [fV, gB, List.cons_append, List.nil_append] at hPm ⊢
          first | (have FRx := FR; clear FRx) | have FR := fr0S
          repeat' first | (refine Sm.mk ?_; try simp -dsimp only [ZK, rvc, drawF, headN, pureH, stp, dvc, calleeOf, gcall, pev, eff, newB, okd, og, ogs, ogo, ogp, slv, bltv, opd, litv, strip, one, both, putE, St.put, look, gdOf, gdv, picka, pickv, pickw, binv, bini, bins, binb, binp, binq, isSlT, bina, shp, eqCells, unv, convv, nilv, faddv, addp, idxav, idxp, load1, load1m, loadn, loadnm, loadv, hget, hset, hrep, hdel, slicev, slice3v, bnd, shift1, lenv, capv, IntKind.bits, extractv, fieldv, indexv, min2v, max2v, mkiv, tasv, tasz, cellsA, fillA, buildv, stC, oneC, rowMB, intsA, plN, appE, appZ, appC, appS, srcB, appNZ, appNC, VwL, srcC, srcZ, srcM, isBoolT, isPtrT, isSliceT, uOk, Value.oneCell', Nat.reducePow, Int.reducePow, Nat.reduceAdd, Nat.reduceMul, Nat.reduceSub, Nat.reduceLT, Nat.reduceLeDiff, Nat.reduceEqDiff, Nat.reduceBEq, Nat.reduceDiv, Nat.reduceMod, ↓reduceIte, reduceCtorEq, Int.reduceToNat, Int.reduceLT, Int.reduceLE, TFCnQ, SeqQ, BlkQ, LoopQ, BodyQ, y1, kcode, s1, t1, List.cons_append, List.nil_append, FR.out]) | (first | refine CallV.fn (cS) (Sm.out ?_) | refine ExF.mk (cS) (Sm.out ?_) | refine ExG.mk (fun _ => cS) (Sm.out ?_) | refine ExG.mkJ (fun _ => cS) (Sm.out ?_) | refine ExG.mkI (Ob.out ?_) (fun _ => cS) (Sm.out ?_)) | refine CallV.updM (c15) (pt1 _ _) (Sm.out ?_) | ((first | refine ExF.up ?_ (c15) (Sm.out ?_) | refine ExG.up ?_ (fun _ => c15) (Sm.out ?_) | refine ExG.upJ ?_ (fun _ => c15) (Sm.out ?_) | refine ExG.upI ?_ (fun _ => c15) (Ob.out ?_) (Sm.out ?_)); focus (exact ⟨_, (pt1 _ _)⟩)) | refine CallV.updM (c17) (pt1 _ _) (Sm.out ?_) | ((first | refine ExF.up ?_ (c17) (Sm.out ?_) | refine ExG.up ?_ (fun _ => c17) (Sm.out ?_) | refine ExG.upJ ?_ (fun _ => c17) (Sm.out ?_) | refine ExG.upI ?_ (fun _ => c17) (Ob.out ?_) (Sm.out ?_)); focus (exact ⟨_, (pt1 _ _)⟩)) | refine CallV.updM (c18) (pt1 _ _) (Sm.out ?_) | ((first | refine ExF.up ?_ (c18) (Sm.out ?_) | refine ExG.up ?_ (fun _ => c18) (Sm.out ?_) | refine ExG.upJ ?_ (fun _ => c18) (Sm.out ?_) | refine ExG.upI ?_ (fun _ => c18) (Ob.out ?_) (Sm.out ?_)); focus (exact ⟨_, (pt1 _ _)⟩)) | (first | refine CallV.fn (psame_en) (Sm.out ?_) | refine ExF.mk (psame_en) (Sm.out ?_) | refine ExG.mk (fun _ => psame_en) (Sm.out ?_) | refine ExG.mkJ (fun _ => psame_en) (Sm.out ?_) | refine ExG.mkI (Ob.out ?_) (fun _ => psame_en) (Sm.out ?_)) | (first | refine CallV.fn (same_en) (Sm.out ?_) | refine ExF.mk (same_en) (Sm.out ?_) | refine ExG.mk (fun _ => same_en) (Sm.out ?_) | refine ExG.mkJ (fun _ => same_en) (Sm.out ?_) | refine ExG.mkI (Ob.out ?_) (fun _ => same_en) (Sm.out ?_)) | refine WP.seq fun K hK => ?_ | refine WP.region (rvc_sound _ _ (Sm.out ?_)) | refine WP.drawK rfl mixed (by decide +kernel) (Sm.out ?_) | (refine Ob.mk ?_; focus (first | assumption | omega | decide | trivial | (intro hob; simp only [hob, ZF]; done) | (intros; (repeat' refine And.intro ?_ ?_) <;> first | assumption | omega | trivial | decide) | (intros; simp only [ZE] at *; (repeat' refine And.intro ?_ ?_) <;> first | assumption | omega | trivial))) | refine And.intro (Ob.out ?_) ?_ | refine WP.block ?_ | (refine WP.cond rfl (fun hc => ?_) (fun hc => ?_) <;> (try simp only [ZC, reduceCtorEq, ZD] at hc) <;> (try exact absurd hc (by decide)) <;> (try (exfalso; omega))) | ((first | refine WP.skip ?_ | refine WP.exit ?_); simp only [SeqQ, BlkQ, LoopQ, BodyQ, ↓reduceIte, Nat.reduceEqDiff, reduceCtorEq, look, true_and]) | refine WP.ret (Sm.out ?_) | (first | refine ExG.no (Sm.out ?_) | refine Or.inl (ExG.no (Sm.out ?_)) | refine Or.inl (And.intro (fun hg => absurd hg (by decide)) (ExG.no (Sm.out ?_)))) | (refine Rt.mk ?_; refine And.intro ?_ ?_ <;> (intro hg; first | exact absurd hg (by decide) | refine Sm.out ?_)) | (refine Nu.mk ?_; first | (fail_if_success have := nb1); intro nb1 | (fail_if_success have := nb2); intro nb2 | (fail_if_success have := nb3); intro nb3 | (fail_if_success have := nb4); intro nb4 | (fail_if_success have := nb5); intro nb5 | (fail_if_success have := nb6); intro nb6 | intro nbz) | (refine Fr.mk ?_; intro hfr; (first | (have hFRb : _ ≤ _ ∧ _ ≤ _ := And.intro hfr.1 hfr.2.1) | (have hFRb : _ ≤ _ := hfr.1) | skip); replace FR := Sm.mk (And.intro hfr FR.out); clear hfr; refine Sm.out ?_) | refine Two.mk ?_ ?_ | (refine Cs.mk ?_; intro hcs; first | exact False.elim hcs | (exfalso; omega) | (refine Sm.out ?_)) | go_step | omega | (simp only [maxLen_eq]; omega) | (refine Or.inr (Rt.mk ?_); refine And.intro ?_ ?_ <;> (intro hg; first | exact absurd hg (by decide) | refine Sm.out ?_))
          exact ⟨⟨i + 1, _, h1, r'⟩, ⟨by simp only; omega, hb1⟩, by simp only; omega, Sub.of_env [] (by simp only [List.append_nil]; rw [← hRR]; exact hPm) (by simp [look])⟩
        · have eV := hV_ne qq hh0
          have eB := hB_ne qq hh0
          have hhc := hh1 hh0
          rw [eV, eB] at hPm ⊢
          obtain ⟨hx, hk⟩ := qq
          simp only at hhc hPm ⊢
          have c14 := same_s hx hk h h.length rfl (by omega) hhc
          obtain ⟨hn, hhn⟩ : ∃ x, x = h.length := ⟨_, rfl⟩
          obtain ⟨HQ, hHQ⟩ : ∃ x, x = kcs h := ⟨_, rfl⟩
          rw [← hhn, ← hHQ] at c14 c18 hPm ⊢
          simp only [fV, gB, List.cons_append, List.nil_append] at hPm ⊢
          first | (have FRx := FR; clear FRx) | have FR := fr0S
          repeat' first | (refine Sm.mk ?_; try simp -dsimp only [ZK, rvc, drawF, headN, pureH, stp, dvc, calleeOf, gcall, pev, eff, newB, okd, og, ogs, ogo, ogp, slv, bltv, opd, litv, strip, one, both, putE, St.put, look, gdOf, gdv, picka, pickv, pickw, binv, bini, bins, binb, binp, binq, isSlT, bina, shp, eqCells, unv, convv, nilv, faddv, addp, idxav, idxp, load1, load1m, loadn, loadnm, loadv, hget, hset, hrep, hdel, slicev, slice3v, bnd, shift1, lenv, capv, IntKind.bits, extractv, fieldv, indexv, min2v, max2v, mkiv, tasv, tasz, cellsA, fillA, buildv, stC, oneC, rowMB, intsA, plN, appE, appZ, appC, appS, srcB, appNZ, appNC, VwL, srcC, srcZ, srcM, isBoolT, isPtrT, isSliceT, uOk, Value.oneCell', Nat.reducePow, Int.reducePow, Nat.reduceAdd, Nat.reduceMul, Nat.reduceSub, Nat.reduceLT, Nat.reduceLeDiff, Nat.reduceEqDiff, Nat.reduceBEq, Nat.reduceDiv, Nat.reduceMod, ↓reduceIte, reduceCtorEq, Int.reduceToNat, Int.reduceLT, Int.reduceLE, TFCnQ, SeqQ, BlkQ, LoopQ, BodyQ, y1, kcode, s1, t1, List.cons_append, List.nil_append, FR.out]) | (first | refine CallV.fn (cS) (Sm.out ?_) | refine ExF.mk (cS) (Sm.out ?_) | refine ExG.mk (fun _ => cS) (Sm.out ?_) | refine ExG.mkJ (fun _ => cS) (Sm.out ?_) | refine ExG.mkI (Ob.out ?_) (fun _ => cS) (Sm.out ?_)) | refine CallV.updM (c15) (pt2 _ _ _) (Sm.out ?_) | ((first | refine ExF.up ?_ (c15) (Sm.out ?_) | refine ExG.up ?_ (fun _ => c15) (Sm.out ?_) | refine ExG.upJ ?_ (fun _ => c15) (Sm.out ?_) | refine ExG.upI ?_ (fun _ => c15) (Ob.out ?_) (Sm.out ?_)); focus (exact ⟨_, (pt2 _ _ _)⟩)) | refine CallV.updM (c17) (pt2 _ _ _) (Sm.out ?_) | ((first | refine ExF.up ?_ (c17) (Sm.out ?_) | refine ExG.up ?_ (fun _ => c17) (Sm.out ?_) | refine ExG.upJ ?_ (fun _ => c17) (Sm.out ?_) | refine ExG.upI ?_ (fun _ => c17) (Ob.out ?_) (Sm.out ?_)); focus (exact ⟨_, (pt2 _ _ _)⟩)) | refine CallV.updM (c18) (pt2 _ _ _) (Sm.out ?_) | ((first | refine ExF.up ?_ (c18) (Sm.out ?_) | refine ExG.up ?_ (fun _ => c18) (Sm.out ?_) | refine ExG.upJ ?_ (fun _ => c18) (Sm.out ?_) | refine ExG.upI ?_ (fun _ => c18) (Ob.out ?_) (Sm.out ?_)); focus (exact ⟨_, (pt2 _ _ _)⟩)) | (first | refine CallV.fn (psame_en) (Sm.out ?_) | refine ExF.mk (psame_en) (Sm.out ?_) | refine ExG.mk (fun _ => psame_en) (Sm.out ?_) | refine ExG.mkJ (fun _ => psame_en) (Sm.out ?_) | refine ExG.mkI (Ob.out ?_) (fun _ => psame_en) (Sm.out ?_)) | refine CallV.updM (c14) (List.Perm.swap _ _ _) (Sm.out ?_) | ((first | refine ExF.up ?_ (c14) (Sm.out ?_) | refine ExG.up ?_ (fun _ => c14) (Sm.out ?_) | refine ExG.upJ ?_ (fun _ => c14) (Sm.out ?_) | refine ExG.upI ?_ (fun _ => c14) (Ob.out ?_) (Sm.out ?_)); focus (exact ⟨_, (List.Perm.swap _ _ _)⟩)) | refine WP.seq fun K hK => ?_ | refine WP.region (rvc_sound _ _ (Sm.out ?_)) | refine WP.drawK rfl mixed (by decide +kernel) (Sm.out ?_) | (refine Ob.mk ?_; focus (first | assumption | omega | decide | trivial | (intro hob; simp only [hob, ZF]; done) | (intros; (repeat' refine And.intro ?_ ?_) <;> first | assumption | omega | trivial | decide) | (intros; simp only [ZE] at *; (repeat' refine And.intro ?_ ?_) <;> first | assumption | omega | trivial))) | refine And.intro (Ob.out ?_) ?_ | refine WP.block ?_ | (refine WP.cond rfl (fun hc => ?_) (fun hc => ?_) <;> (try simp only [ZC, reduceCtorEq, ZD] at hc) <;> (try exact absurd hc (by decide)) <;> (try (exfalso; omega))) | ((first | refine WP.skip ?_ | refine WP.exit ?_); simp only [SeqQ, BlkQ, LoopQ, BodyQ, ↓reduceIte, Nat.reduceEqDiff, reduceCtorEq, look, true_and]) | refine WP.ret (Sm.out ?_) | (first | refine ExG.no (Sm.out ?_) | refine Or.inl (ExG.no (Sm.out ?_)) | refine Or.inl (And.intro (fun hg => absurd hg (by decide)) (ExG.no (Sm.out ?_)))) | (refine Rt.mk ?_; refine And.intro ?_ ?_ <;> (intro hg; first | exact absurd hg (by decide) | refine Sm.out ?_)) | (refine Nu.mk ?_; first | (fail_if_success have := nb1); intro nb1 | (fail_if_success have := nb2); intro nb2 | (fail_if_success have := nb3); intro nb3 | (fail_if_success have := nb4); intro nb4 | (fail_if_success have := nb5); intro nb5 | (fail_if_success have := nb6); intro nb6 | intro nbz) | (refine Fr.mk ?_; intro hfr; (first | (have hFRb : _ ≤ _ ∧ _ ≤ _ := And.intro hfr.1 hfr.2.1) | (have hFRb : _ ≤ _ := hfr.1) | skip); replace FR := Sm.mk (And.intro hfr FR.out); clear hfr; refine Sm.out ?_) | refine Two.mk ?_ ?_ | (refine Cs.mk ?_; intro hcs; first | exact False.elim hcs | (exfalso; omega) | (refine Sm.out ?_)) | go_step | omega | (simp only [maxLen_eq]; omega) | (refine Or.inr (Rt.mk ?_); refine And.intro ?_ ?_ <;> (intro hg; first | exact absurd hg (by decide) | refine Sm.out ?_))
          exact ⟨⟨i + 1, _, h1, r'⟩, ⟨by simp only; omega, hb1⟩, by simp only; omega, Sub.of_env [] (by simp only [List.append_nil]; rw [← hRR]; exact hPm) (by simp [look])⟩
      | some fo =>
        obtain ⟨x, k⟩ := fo
        have hfk := hf1 _ rfl
        simp only at hfk
        have c16 := psame_s x k l l.length rfl (by omega) hpm hfk
        simp only [fV, gB] at hPm ⊢
        obtain ⟨ln, hln⟩ : ∃ x, x = l.length := ⟨_, rfl⟩
        obtain ⟨LP, hLP⟩ : ∃ x, x = pcs l := ⟨_, rfl⟩
        rw [← hln, ← hLP] at c16 c17 hPm ⊢
        by_cases hh0 : h = []
        · subst hh0
          have e1 : ([] : List Ky).length = 0 := rfl
          have e2 : kcs [] = [] := rfl
          have eV : hV [] qq = nsl := rfl
          have eB : hB [] qq = [] := rfl
          rw [e1, e2] at c18
          rw [eV, eB] at hPm ⊢
          simp only [fV, gB, List.cons_append, List.nil_append] at hPm ⊢
          first | (have FRx := FR; clear FRx) | have FR := fr0S
          repeat' first | (refine Sm.mk ?_; try simp -dsimp only [ZK, rvc, drawF, headN, pureH, stp, dvc, calleeOf, gcall, pev, eff, newB, okd, og, ogs, ogo, ogp, slv, bltv, opd, litv, strip, one, both, putE, St.put, look, gdOf, gdv, picka, pickv, pickw, binv, bini, bins, binb, binp, binq, isSlT, bina, shp, eqCells, unv, convv, nilv, faddv, addp, idxav, idxp, load1, load1m, loadn, loadnm, loadv, hget, hset, hrep, hdel, slicev, slice3v, bnd, shift1, lenv, capv, IntKind.bits, extractv, fieldv, indexv, min2v, max2v, mkiv, tasv, tasz, cellsA, fillA, buildv, stC, oneC, rowMB, intsA, plN, appE, appZ, appC, appS, srcB, appNZ, appNC, VwL, srcC, srcZ, srcM, isBoolT, isPtrT, isSliceT, uOk, Value.oneCell', Nat.reducePow, Int.reducePow, Nat.reduceAdd, Nat.reduceMul, Nat.reduceSub, Nat.reduceLT, Nat.reduceLeDiff, Nat.reduceEqDiff, Nat.reduceBEq, Nat.reduceDiv, Nat.reduceMod, ↓reduceIte, reduceCtorEq, Int.reduceToNat, Int.reduceLT, Int.reduceLE, TFCnQ, SeqQ, BlkQ, LoopQ, BodyQ, y1, kcode, s1, t1, List.cons_append, List.nil_append, FR.out]) | (first | refine CallV.fn (cS) (Sm.out ?_) | refine ExF.mk (cS) (Sm.out ?_) | refine ExG.mk (fun _ => cS) (Sm.out ?_) | refine ExG.mkJ (fun _ => cS) (Sm.out ?_) | refine ExG.mkI (Ob.out ?_) (fun _ => cS) (Sm.out ?_)) | refine CallV.updM (c15) (pt2 _ _ _) (Sm.out ?_) | ((first | refine ExF.up ?_ (c15) (Sm.out ?_) | refine ExG.up ?_ (fun _ => c15) (Sm.out ?_) | refine ExG.upJ ?_ (fun _ => c15) (Sm.out ?_) | refine ExG.upI ?_ (fun _ => c15) (Ob.out ?_) (Sm.out ?_)); focus (exact ⟨_, (pt2 _ _ _)⟩)) | refine CallV.updM (c17) (pt2 _ _ _) (Sm.out ?_) | ((first | refine ExF.up ?_ (c17) (Sm.out ?_) | refine ExG.up ?_ (fun _ => c17) (Sm.out ?_) | refine ExG.upJ ?_ (fun _ => c17) (Sm.out ?_) | refine ExG.upI ?_ (fun _ => c17) (Ob.out ?_) (Sm.out ?_)); focus (exact ⟨_, (pt2 _ _ _)⟩)) | refine CallV.updM (c18) (pt2 _ _ _) (Sm.out ?_) | ((first | refine ExF.up ?_ (c18) (Sm.out ?_) | refine ExG.up ?_ (fun _ => c18) (Sm.out ?_) | refine ExG.upJ ?_ (fun _ => c18) (Sm.out ?_) | refine ExG.upI ?_ (fun _ => c18) (Ob.out ?_) (Sm.out ?_)); focus (exact ⟨_, (pt2 _ _ _)⟩)) | refine CallV.updM (c16) (List.Perm.swap _ _ _) (Sm.out ?_) | ((first | refine ExF.up ?_ (c16) (Sm.out ?_) | refine ExG.up ?_ (fun _ => c16) (Sm.out ?_) | refine ExG.upJ ?_ (fun _ => c16) (Sm.out ?_) | refine ExG.upI ?_ (fun _ => c16) (Ob.out ?_) (Sm.out ?_)); focus (exact ⟨_, (List.Perm.swap _ _ _)⟩)) | (first | refine CallV.fn (same_en) (Sm.out ?_) | refine ExF.mk (same_en) (Sm.out ?_) | refine ExG.mk (fun _ => same_en) (Sm.out ?_) | refine ExG.mkJ (fun _ => same_en) (Sm.out ?_) | refine ExG.mkI (Ob.out ?_) (fun _ => same_en) (Sm.out ?_)) | refine WP.seq fun K hK => ?_ | refine WP.region (rvc_sound _ _ (Sm.out ?_)) | refine WP.drawK rfl mixed (by decide +kernel) (Sm.out ?_) | (refine Ob.mk ?_; focus (first | assumption | omega | decide | trivial | (intro hob; simp only [hob, ZF]; done) | (intros; (repeat' refine And.intro ?_ ?_) <;> first | assumption | omega | trivial | decide) | (intros; simp only [ZE] at *; (repeat' refine And.intro ?_ ?_) <;> first | assumption | omega | trivial))) | refine And.intro (Ob.out ?_) ?_ | refine WP.block ?_ | (refine WP.cond rfl (fun hc => ?_) (fun hc => ?_) <;> (try simp only [ZC, reduceCtorEq, ZD] at hc) <;> (try exact absurd hc (by decide)) <;> (try (exfalso; omega))) | ((first | refine WP.skip ?_ | refine WP.exit ?_); simp only [SeqQ, BlkQ, LoopQ, BodyQ, ↓reduceIte, Nat.reduceEqDiff, reduceCtorEq, look, true_and]) | refine WP.ret (Sm.out ?_) | (first | refine ExG.no (Sm.out ?_) | refine Or.inl (ExG.no (Sm.out ?_)) | refine Or.inl (And.intro (fun hg => absurd hg (by decide)) (ExG.no (Sm.out ?_)))) | (refine Rt.mk ?_; refine And.intro ?_ ?_ <;> (intro hg; first | exact absurd hg (by decide) | refine Sm.out ?_)) | (refine Nu.mk ?_; first | (fail_if_success have := nb1); intro nb1 | (fail_if_success have := nb2); intro nb2 | (fail_if_success have := nb3); intro nb3 | (fail_if_success have := nb4); intro nb4 | (fail_if_success have := nb5); intro nb5 | (fail_if_success have := nb6); intro nb6 | intro nbz) | (refine Fr.mk ?_; intro hfr; (first | (have hFRb : _ ≤ _ ∧ _ ≤ _ := And.intro hfr.1 hfr.2.1) | (have hFRb : _ ≤ _ := hfr.1) | skip); replace FR := Sm.mk (And.intro hfr FR.out); clear hfr; refine Sm.out ?_) | refine Two.mk ?_ ?_ | (refine Cs.mk ?_; intro hcs; first | exact False.elim hcs | (exfalso; omega) | (refine Sm.out ?_)) | go_step | omega | (simp only [maxLen_eq]; omega) | (refine Or.inr (Rt.mk ?_); refine And.intro ?_ ?_ <;> (intro hg; first | exact absurd hg (by decide) | refine Sm.out ?_))
          exact ⟨⟨i + 1, _, h1, r'⟩, ⟨by simp only; omega, hb1⟩, by simp only; omega, Sub.of_env [] (by simp only [List.append_nil]; rw [← hRR]; exact hPm) (by simp [look])⟩
        · have eV := hV_ne qq hh0
          have eB := hB_ne qq hh0
          have hhc := hh1 hh0
          rw [eV, eB] at hPm ⊢
          obtain ⟨hx, hk⟩ := qq
          simp only at hhc hPm ⊢
          have c14 := same_s hx hk h h.length rfl (by omega) hhc
          obtain ⟨hn, hhn⟩ : ∃ x, x = h.length := ⟨_, rfl⟩
          obtain ⟨HQ, hHQ⟩ : ∃ x, x = kcs h := ⟨_, rfl⟩
          rw [← hhn, ← hHQ] at c14 c18 hPm ⊢
          simp only [fV, gB, List.cons_append, List.nil_append] at hPm ⊢
          first | (have FRx := FR; clear FRx) | have FR := fr0S
          repeat' first | (refine Sm.mk ?_; try simp -dsimp only [ZK, rvc, drawF, headN, pureH, stp, dvc, calleeOf, gcall, pev, eff, newB, okd, og, ogs, ogo, ogp, slv, bltv, opd, litv, strip, one, both, putE, St.put, look, gdOf, gdv, picka, pickv, pickw, binv, bini, bins, binb, binp, binq, isSlT, bina, shp, eqCells, unv, convv, nilv, faddv, addp, idxav, idxp, load1, load1m, loadn, loadnm, loadv, hget, hset, hrep, hdel, slicev, slice3v, bnd, shift1, lenv, capv, IntKind.bits, extractv, fieldv, indexv, min2v, max2v, mkiv, tasv, tasz, cellsA, fillA, buildv, stC, oneC, rowMB, intsA, plN, appE, appZ, appC, appS, srcB, appNZ, appNC, VwL, srcC, srcZ, srcM, isBoolT, isPtrT, isSliceT, uOk, Value.oneCell', Nat.reducePow, Int.reducePow, Nat.reduceAdd, Nat.reduceMul, Nat.reduceSub, Nat.reduceLT, Nat.reduceLeDiff, Nat.reduceEqDiff, Nat.reduceBEq, Nat.reduceDiv, Nat.reduceMod, ↓reduceIte, reduceCtorEq, Int.reduceToNat, Int.reduceLT, Int.reduceLE, TFCnQ, SeqQ, BlkQ, LoopQ, BodyQ, y1, kcode, s1, t1, List.cons_append, List.nil_append, FR.out]) | (first | refine CallV.fn (cS) (Sm.out ?_) | refine ExF.mk (cS) (Sm.out ?_) | refine ExG.mk (fun _ => cS) (Sm.out ?_) | refine ExG.mkJ (fun _ => cS) (Sm.out ?_) | refine ExG.mkI (Ob.out ?_) (fun _ => cS) (Sm.out ?_)) | refine CallV.updM (c15) (pt3 _ _ _ _) (Sm.out ?_) | ((first | refine ExF.up ?_ (c15) (Sm.out ?_) | refine ExG.up ?_ (fun _ => c15) (Sm.out ?_) | refine ExG.upJ ?_ (fun _ => c15) (Sm.out ?_) | refine ExG.upI ?_ (fun _ => c15) (Ob.out ?_) (Sm.out ?_)); focus (exact ⟨_, (pt3 _ _ _ _)⟩)) | refine CallV.updM (c17) (pt3 _ _ _ _) (Sm.out ?_) | ((first | refine ExF.up ?_ (c17) (Sm.out ?_) | refine ExG.up ?_ (fun _ => c17) (Sm.out ?_) | refine ExG.upJ ?_ (fun _ => c17) (Sm.out ?_) | refine ExG.upI ?_ (fun _ => c17) (Ob.out ?_) (Sm.out ?_)); focus (exact ⟨_, (pt3 _ _ _ _)⟩)) | refine CallV.updM (c18) (pt3 _ _ _ _) (Sm.out ?_) | ((first | refine ExF.up ?_ (c18) (Sm.out ?_) | refine ExG.up ?_ (fun _ => c18) (Sm.out ?_) | refine ExG.upJ ?_ (fun _ => c18) (Sm.out ?_) | refine ExG.upI ?_ (fun _ => c18) (Ob.out ?_) (Sm.out ?_)); focus (exact ⟨_, (pt3 _ _ _ _)⟩)) | refine CallV.updM (c16) (List.Perm.swap _ _ _) (Sm.out ?_) | ((first | refine ExF.up ?_ (c16) (Sm.out ?_) | refine ExG.up ?_ (fun _ => c16) (Sm.out ?_) | refine ExG.upJ ?_ (fun _ => c16) (Sm.out ?_) | refine ExG.upI ?_ (fun _ => c16) (Ob.out ?_) (Sm.out ?_)); focus (exact ⟨_, (List.Perm.swap _ _ _)⟩)) | refine CallV.updM (c14) (pv3 _ _ _ _) (Sm.out ?_) | ((first | refine ExF.up ?_ (c14) (Sm.out ?_) | refine ExG.up ?_ (fun _ => c14) (Sm.out ?_) | refine ExG.upJ ?_ (fun _ => c14) (Sm.out ?_) | refine ExG.upI ?_ (fun _ => c14) (Ob.out ?_) (Sm.out ?_)); focus (exact ⟨_, (pv3 _ _ _ _)⟩)) | refine WP.seq fun K hK => ?_ | refine WP.region (rvc_sound _ _ (Sm.out ?_)) | refine WP.drawK rfl mixed (by decide +kernel) (Sm.out ?_) | (refine Ob.mk ?_; focus (first | assumption | omega | decide | trivial | (intro hob; simp only [hob, ZF]; done) | (intros; (repeat' refine And.intro ?_ ?_) <;> first | assumption | omega | trivial | decide) | (intros; simp only [ZE] at *; (repeat' refine And.intro ?_ ?_) <;> first | assumption | omega | trivial))) | refine And.intro (Ob.out ?_) ?_ | refine WP.block ?_ | (refine WP.cond rfl (fun hc => ?_) (fun hc => ?_) <;> (try simp only [ZC, reduceCtorEq, ZD] at hc) <;> (try exact absurd hc (by decide)) <;> (try (exfalso; omega))) | ((first | refine WP.skip ?_ | refine WP.exit ?_); simp only [SeqQ, BlkQ, LoopQ, BodyQ, ↓reduceIte, Nat.reduceEqDiff, reduceCtorEq, look, true_and]) | refine WP.ret (Sm.out ?_) | (first | refine ExG.no (Sm.out ?_) | refine Or.inl (ExG.no (Sm.out ?_)) | refine Or.inl (And.intro (fun hg => absurd hg (by decide)) (ExG.no (Sm.out ?_)))) | (refine Rt.mk ?_; refine And.intro ?_ ?_ <;> (intro hg; first | exact absurd hg (by decide) | refine Sm.out ?_)) | (refine Nu.mk ?_; first | (fail_if_success have := nb1); intro nb1 | (fail_if_success have := nb2); intro nb2 | (fail_if_success have := nb3); intro nb3 | (fail_if_success have := nb4); intro nb4 | (fail_if_success have := nb5); intro nb5 | (fail_if_success have := nb6); intro nb6 | intro nbz) | (refine Fr.mk ?_; intro hfr; (first | (have hFRb : _ ≤ _ ∧ _ ≤ _ := And.intro hfr.1 hfr.2.1) | (have hFRb : _ ≤ _ := hfr.1) | skip); replace FR := Sm.mk (And.intro hfr FR.out); clear hfr; refine Sm.out ?_) | refine Two.mk ?_ ?_ | (refine Cs.mk ?_; intro hcs; first | exact False.elim hcs | (exfalso; omega) | (refine Sm.out ?_)) | go_step | omega | (simp only [maxLen_eq]; omega) | (refine Or.inr (Rt.mk ?_); refine And.intro ?_ ?_ <;> (intro hg; first | exact absurd hg (by decide) | refine Sm.out ?_))
          exact ⟨⟨i + 1, _, h1, r'⟩, ⟨by simp only; omega, hb1⟩, by simp only; omega, Sub.of_env [] (by simp only [List.append_nil]; rw [← hRR]; exact hPm) (by simp [look])⟩
    clear hK2
    have hf3 := FR.out.1
    have h13 := hf3 _ (List.mem_append_left _ (show (nb1, chM (fV (CA.mk l h nn).l.length h1.1.1) (hV (CA.mk l h nn).h h1.1.2) (iv .u64 (CA.mk l h nn).n)) ∈ cH nb1 ⟨l, h, nn⟩ h1.1 from List.mem_cons_self ..))
    have h23 := hf3 _ (List.mem_append_right _ (show (nb2, rM (fV a.l.length r.1.1) (hV a.h r.1.2) (iv .u64 a.n)) ∈ Gr by rw [hGr]; exact List.mem_cons_self ..))
    simp only at h13 h23
    (refine WP.wk (Wk.freezeC (nb3) (5) (by simp only [ZK, rvc, drawF, headN, pureH, stp, dvc, calleeOf, gcall, pev, eff, newB, okd, og, ogs, ogo, ogp, slv, bltv, opd, litv, strip, one, both, putE, St.put, look, gdOf, gdv, picka, pickv, pickw, binv, bini, bins, binb, binp, binq, isSlT, bina, shp, eqCells, unv, convv, nilv, faddv, addp, idxav, idxp, load1, load1m, loadn, loadnm, loadv, hget, hset, hrep, hdel, slicev, slice3v, bnd, shift1, lenv, capv, IntKind.bits, extractv, fieldv, indexv, min2v, max2v, mkiv, tasv, tasz, cellsA, fillA, buildv, stC, oneC, rowMB, intsA, plN, appE, appZ, appC, appS, srcB, appNZ, appNC, VwL, srcC, srcZ, srcM, isBoolT, isPtrT, isSliceT, uOk, Value.oneCell', Nat.reducePow, Int.reducePow, Nat.reduceAdd, Nat.reduceMul, Nat.reduceSub, Nat.reduceLT, Nat.reduceLeDiff, Nat.reduceEqDiff, Nat.reduceBEq, Nat.reduceDiv, Nat.reduceMod, ↓reduceIte, reduceCtorEq, Int.reduceToNat, Int.reduceLT, Int.reduceLE, TFCnQ, SeqQ, BlkQ, LoopQ, BodyQ, List.drop_nil, List.take_nil, Nat.zero_mul, Nat.zero_add, List.length_nil, maxLen_eq, h13, h23, FR.out]; first | done | rfl)) ?_; simp only [frzCE, frzC, ZK, rvc, drawF, headN, pureH, stp, dvc, calleeOf, gcall, pev, eff, newB, okd, og, ogs, ogo, ogp, slv, bltv, opd, litv, strip, one, both, putE, St.put, look, gdOf, gdv, picka, pickv, pickw, binv, bini, bins, binb, binp, binq, isSlT, bina, shp, eqCells, unv, convv, nilv, faddv, addp, idxav, idxp, load1, load1m, loadn, loadnm, loadv, hget, hset, hrep, hdel, slicev, slice3v, bnd, shift1, lenv, capv, IntKind.bits, extractv, fieldv, indexv, min2v, max2v, mkiv, tasv, tasz, cellsA, fillA, buildv, stC, oneC, rowMB, intsA, plN, appE, appZ, appC, appS, srcB, appNZ, appNC, VwL, srcC, srcZ, srcM, isBoolT, isPtrT, isSliceT, uOk, Value.oneCell', Nat.reducePow, Int.reducePow, Nat.reduceAdd, Nat.reduceMul, Nat.reduceSub, Nat.reduceLT, Nat.reduceLeDiff, Nat.reduceEqDiff, Nat.reduceBEq, Nat.reduceDiv, Nat.reduceMod, ↓reduceIte, reduceCtorEq, Int.reduceToNat, Int.reduceLT, Int.reduceLE, TFCnQ, SeqQ, BlkQ, LoopQ, BodyQ, List.drop_nil, List.take_nil, Nat.zero_mul, Nat.zero_add, List.length_nil, maxLen_eq, h13, h23, FR.out])
    clear h13 h23 hf3 FR
    have FR : Sm (¬ ((1 : Nat) = 0)) := Sm.mk Nat.one_ne_zero
    by_cases e2 : kd = 2
    · rw [hst2 e2] at c2
      simp only at c2
      rw [← htn, ← hTT] at c2
      subst e2
      clear hst hst2 ht0
      first | (have FRx := FR; clear FRx) | have FR := fr0S
      repeat' first | (refine Sm.mk ?_; try simp -dsimp only [ZK, rvc, drawF, headN, pureH, stp, dvc, calleeOf, gcall, pev, eff, newB, okd, og, ogs, ogo, ogp, slv, bltv, opd, litv, strip, one, both, putE, St.put, look, gdOf, gdv, picka, pickv, pickw, binv, bini, bins, binb, binp, binq, isSlT, bina, shp, eqCells, unv, convv, nilv, faddv, addp, idxav, idxp, load1, load1m, loadn, loadnm, loadv, hget, hset, hrep, hdel, slicev, slice3v, bnd, shift1, lenv, capv, IntKind.bits, extractv, fieldv, indexv, min2v, max2v, mkiv, tasv, tasz, cellsA, fillA, buildv, stC, oneC, rowMB, intsA, plN, appE, appZ, appC, appS, srcB, appNZ, appNC, VwL, srcC, srcZ, srcM, isBoolT, isPtrT, isSliceT, uOk, Value.oneCell', Nat.reducePow, Int.reducePow, Nat.reduceAdd, Nat.reduceMul, Nat.reduceSub, Nat.reduceLT, Nat.reduceLeDiff, Nat.reduceEqDiff, Nat.reduceBEq, Nat.reduceDiv, Nat.reduceMod, ↓reduceIte, reduceCtorEq, Int.reduceToNat, Int.reduceLT, Int.reduceLE, TFCnQ, SeqQ, BlkQ, LoopQ, BodyQ, hd, q1, hin, t1, FR.out]) | (refine CallV.exM (c2) (px _ _) (fun r2 => Sm.out ?_)) | refine WP.seq fun K hK => ?_ | refine WP.region (rvc_sound _ _ (Sm.out ?_)) | refine WP.drawK rfl mixed (by decide +kernel) (Sm.out ?_) | (refine Ob.mk ?_; focus (first | assumption | omega | decide | trivial | (intro hob; simp only [hob, ZF]; done) | (intros; (repeat' refine And.intro ?_ ?_) <;> first | assumption | omega | trivial | decide) | (intros; simp only [ZE] at *; (repeat' refine And.intro ?_ ?_) <;> first | assumption | omega | trivial))) | refine And.intro (Ob.out ?_) ?_ | refine WP.block ?_ | (refine WP.cond rfl (fun hc => ?_) (fun hc => ?_) <;> (try simp only [ZC, reduceCtorEq, ZD] at hc) <;> (try exact absurd hc (by decide)) <;> (try (exfalso; omega))) | ((first | refine WP.skip ?_ | refine WP.exit ?_); simp only [SeqQ, BlkQ, LoopQ, BodyQ, ↓reduceIte, Nat.reduceEqDiff, reduceCtorEq, look, true_and]) | refine WP.ret (Sm.out ?_) | (first | refine ExG.no (Sm.out ?_) | refine Or.inl (ExG.no (Sm.out ?_)) | refine Or.inl (And.intro (fun hg => absurd hg (by decide)) (ExG.no (Sm.out ?_)))) | (refine Rt.mk ?_; refine And.intro ?_ ?_ <;> (intro hg; first | exact absurd hg (by decide) | refine Sm.out ?_)) | (refine Nu.mk ?_; first | (fail_if_success have := nb1); intro nb1 | (fail_if_success have := nb2); intro nb2 | (fail_if_success have := nb3); intro nb3 | (fail_if_success have := nb4); intro nb4 | (fail_if_success have := nb5); intro nb5 | (fail_if_success have := nb6); intro nb6 | intro nbz) | (refine Fr.mk ?_; intro hfr; (first | (have hFRb : _ ≤ _ ∧ _ ≤ _ := And.intro hfr.1 hfr.2.1) | (have hFRb : _ ≤ _ := hfr.1) | skip); replace FR := Sm.mk (And.intro hfr FR.out); clear hfr; refine Sm.out ?_) | refine Two.mk ?_ ?_ | (refine Cs.mk ?_; intro hcs; first | exact False.elim hcs | (exfalso; omega) | (refine Sm.out ?_)) | go_step | omega | (simp only [maxLen_eq]; omega) | (refine Or.inr (Rt.mk ?_); refine And.intro ?_ ?_ <;> (intro hg; first | exact absurd hg (by decide) | refine Sm.out ?_))
      exact cont.out r2 _ (Sub.of_env [] (by rw [List.append_nil]; exact bH_rc nb1 nb2 _ h1.1 r2.1) (by simp [look]))
    have j2 : (kd == 2) = false := beq_eq_false_iff_ne.2 e2
    obtain ⟨et, eT⟩ := ht0 e2
    subst et eT
    clear hst2
    by_cases e1 : kd = 1
    · subst e1
      rw [if_pos rfl] at hst
      have q1' := congrArg (fun s : CA × (List Ky × Int) => s.1) hst
      have q2' := congrArg (fun s : CA × (List Ky × Int) => s.2.2) hst
      simp only at q1' q2'
      rw [← q1', ← q2'] at c1
      clear q1' q2' hst
      first | (have FRx := FR; clear FRx) | have FR := fr0S
      repeat' first | (refine Sm.mk ?_; try simp -dsimp only [ZK, rvc, drawF, headN, pureH, stp, dvc, calleeOf, gcall, pev, eff, newB, okd, og, ogs, ogo, ogp, slv, bltv, opd, litv, strip, one, both, putE, St.put, look, gdOf, gdv, picka, pickv, pickw, binv, bini, bins, binb, binp, binq, isSlT, bina, shp, eqCells, unv, convv, nilv, faddv, addp, idxav, idxp, load1, load1m, loadn, loadnm, loadv, hget, hset, hrep, hdel, slicev, slice3v, bnd, shift1, lenv, capv, IntKind.bits, extractv, fieldv, indexv, min2v, max2v, mkiv, tasv, tasz, cellsA, fillA, buildv, stC, oneC, rowMB, intsA, plN, appE, appZ, appC, appS, srcB, appNZ, appNC, VwL, srcC, srcZ, srcM, isBoolT, isPtrT, isSliceT, uOk, Value.oneCell', Nat.reducePow, Int.reducePow, Nat.reduceAdd, Nat.reduceMul, Nat.reduceSub, Nat.reduceLT, Nat.reduceLeDiff, Nat.reduceEqDiff, Nat.reduceBEq, Nat.reduceDiv, Nat.reduceMod, ↓reduceIte, reduceCtorEq, Int.reduceToNat, Int.reduceLT, Int.reduceLE, TFCnQ, SeqQ, BlkQ, LoopQ, BodyQ, hd, q1, hin, t1, FR.out]) | (refine CallV.exM (c1) (px _ _) (fun r2 => Sm.out ?_)) | refine WP.seq fun K hK => ?_ | refine WP.region (rvc_sound _ _ (Sm.out ?_)) | refine WP.drawK rfl mixed (by decide +kernel) (Sm.out ?_) | (refine Ob.mk ?_; focus (first | assumption | omega | decide | trivial | (intro hob; simp only [hob, ZF]; done) | (intros; (repeat' refine And.intro ?_ ?_) <;> first | assumption | omega | trivial | decide) | (intros; simp only [ZE] at *; (repeat' refine And.intro ?_ ?_) <;> first | assumption | omega | trivial))) | refine And.intro (Ob.out ?_) ?_ | refine WP.block ?_ | (refine WP.cond rfl (fun hc => ?_) (fun hc => ?_) <;> (try simp only [ZC, reduceCtorEq, ZD] at hc) <;> (try exact absurd hc (by decide)) <;> (try (exfalso; omega))) | ((first | refine WP.skip ?_ | refine WP.exit ?_); simp only [SeqQ, BlkQ, LoopQ, BodyQ, ↓reduceIte, Nat.reduceEqDiff, reduceCtorEq, look, true_and]) | refine WP.ret (Sm.out ?_) | (first | refine ExG.no (Sm.out ?_) | refine Or.inl (ExG.no (Sm.out ?_)) | refine Or.inl (And.intro (fun hg => absurd hg (by decide)) (ExG.no (Sm.out ?_)))) | (refine Rt.mk ?_; refine And.intro ?_ ?_ <;> (intro hg; first | exact absurd hg (by decide) | refine Sm.out ?_)) | (refine Nu.mk ?_; first | (fail_if_success have := nb1); intro nb1 | (fail_if_success have := nb2); intro nb2 | (fail_if_success have := nb3); intro nb3 | (fail_if_success have := nb4); intro nb4 | (fail_if_success have := nb5); intro nb5 | (fail_if_success have := nb6); intro nb6 | intro nbz) | (refine Fr.mk ?_; intro hfr; (first | (have hFRb : _ ≤ _ ∧ _ ≤ _ := And.intro hfr.1 hfr.2.1) | (have hFRb : _ ≤ _ := hfr.1) | skip); replace FR := Sm.mk (And.intro hfr FR.out); clear hfr; refine Sm.out ?_) | refine Two.mk ?_ ?_ | (refine Cs.mk ?_; intro hcs; first | exact False.elim hcs | (exfalso; omega) | (refine Sm.out ?_)) | go_step | omega | (simp only [maxLen_eq]; omega) | (refine Or.inr (Rt.mk ?_); refine And.intro ?_ ?_ <;> (intro hg; first | exact absurd hg (by decide) | refine Sm.out ?_))
      exact cont.out r2 _ (Sub.of_env [] (by rw [List.append_nil]; exact bH_rc nb1 nb2 _ h1.1 r2.1) (by simp [look]))
    have j1 : (kd == 1) = false := beq_eq_false_iff_ne.2 e1
    by_cases e3 : kd = 3
    · subst e3
      rw [if_neg e1, if_neg e2, if_pos rfl] at hst
      have q1' := congrArg (fun s : CA × (List Ky × Int) => s.1) hst
      have q2' := congrArg (fun s : CA × (List Ky × Int) => s.2.2) hst
      simp only at q1' q2'
      rw [← q1', ← q2'] at c3
      clear q1' q2' hst
      first | (have FRx := FR; clear FRx) | have FR := fr0S
      repeat' first | (refine Sm.mk ?_; try simp -dsimp only [ZK, rvc, drawF, headN, pureH, stp, dvc, calleeOf, gcall, pev, eff, newB, okd, og, ogs, ogo, ogp, slv, bltv, opd, litv, strip, one, both, putE, St.put, look, gdOf, gdv, picka, pickv, pickw, binv, bini, bins, binb, binp, binq, isSlT, bina, shp, eqCells, unv, convv, nilv, faddv, addp, idxav, idxp, load1, load1m, loadn, loadnm, loadv, hget, hset, hrep, hdel, slicev, slice3v, bnd, shift1, lenv, capv, IntKind.bits, extractv, fieldv, indexv, min2v, max2v, mkiv, tasv, tasz, cellsA, fillA, buildv, stC, oneC, rowMB, intsA, plN, appE, appZ, appC, appS, srcB, appNZ, appNC, VwL, srcC, srcZ, srcM, isBoolT, isPtrT, isSliceT, uOk, Value.oneCell', Nat.reducePow, Int.reducePow, Nat.reduceAdd, Nat.reduceMul, Nat.reduceSub, Nat.reduceLT, Nat.reduceLeDiff, Nat.reduceEqDiff, Nat.reduceBEq, Nat.reduceDiv, Nat.reduceMod, ↓reduceIte, reduceCtorEq, Int.reduceToNat, Int.reduceLT, Int.reduceLE, TFCnQ, SeqQ, BlkQ, LoopQ, BodyQ, hd, q1, hin, t1, j1, j2, FR.out]) | (refine CallV.exM (c3) (px _ _) (fun r2 => Sm.out ?_)) | refine WP.seq fun K hK => ?_ | refine WP.region (rvc_sound _ _ (Sm.out ?_)) | refine WP.drawK rfl mixed (by decide +kernel) (Sm.out ?_) | (refine Ob.mk ?_; focus (first | assumption | omega | decide | trivial | (intro hob; simp only [hob, ZF]; done) | (intros; (repeat' refine And.intro ?_ ?_) <;> first | assumption | omega | trivial | decide) | (intros; simp only [ZE] at *; (repeat' refine And.intro ?_ ?_) <;> first | assumption | omega | trivial))) | refine And.intro (Ob.out ?_) ?_ | refine WP.block ?_ | (refine WP.cond rfl (fun hc => ?_) (fun hc => ?_) <;> (try simp only [ZC, reduceCtorEq, ZD] at hc) <;> (try exact absurd hc (by decide)) <;> (try (exfalso; omega))) | ((first | refine WP.skip ?_ | refine WP.exit ?_); simp only [SeqQ, BlkQ, LoopQ, BodyQ, ↓reduceIte, Nat.reduceEqDiff, reduceCtorEq, look, true_and]) | refine WP.ret (Sm.out ?_) | (first | refine ExG.no (Sm.out ?_) | refine Or.inl (ExG.no (Sm.out ?_)) | refine Or.inl (And.intro (fun hg => absurd hg (by decide)) (ExG.no (Sm.out ?_)))) | (refine Rt.mk ?_; refine And.intro ?_ ?_ <;> (intro hg; first | exact absurd hg (by decide) | refine Sm.out ?_)) | (refine Nu.mk ?_; first | (fail_if_success have := nb1); intro nb1 | (fail_if_success have := nb2); intro nb2 | (fail_if_success have := nb3); intro nb3 | (fail_if_success have := nb4); intro nb4 | (fail_if_success have := nb5); intro nb5 | (fail_if_success have := nb6); intro nb6 | intro nbz) | (refine Fr.mk ?_; intro hfr; (first | (have hFRb : _ ≤ _ ∧ _ ≤ _ := And.intro hfr.1 hfr.2.1) | (have hFRb : _ ≤ _ := hfr.1) | skip); replace FR := Sm.mk (And.intro hfr FR.out); clear hfr; refine Sm.out ?_) | refine Two.mk ?_ ?_ | (refine Cs.mk ?_; intro hcs; first | exact False.elim hcs | (exfalso; omega) | (refine Sm.out ?_)) | go_step | omega | (simp only [maxLen_eq]; omega) | (refine Or.inr (Rt.mk ?_); refine And.intro ?_ ?_ <;> (intro hg; first | exact absurd hg (by decide) | refine Sm.out ?_))
      exact cont.out r2 _ (Sub.of_env [] (by rw [List.append_nil]; exact bH_rc nb1 nb2 _ h1.1 r2.1) (by simp [look]))
    have j3 : (kd == 3) = false := beq_eq_false_iff_ne.2 e3
    by_cases e4 : kd = 4
    · subst e4
      rw [if_neg e1, if_neg e2, if_neg e3, if_pos rfl] at hst
      have q1' := congrArg (fun s : CA × (List Ky × Int) => s.1) hst
      have q2' := congrArg (fun s : CA × (List Ky × Int) => s.2.2) hst
      simp only at q1' q2'
      rw [← q1', ← q2'] at c4
      clear q1' q2' hst
      first | (have FRx := FR; clear FRx) | have FR := fr0S
      repeat' first | (refine Sm.mk ?_; try simp -dsimp only [ZK, rvc, drawF, headN, pureH, stp, dvc, calleeOf, gcall, pev, eff, newB, okd, og, ogs, ogo, ogp, slv, bltv, opd, litv, strip, one, both, putE, St.put, look, gdOf, gdv, picka, pickv, pickw, binv, bini, bins, binb, binp, binq, isSlT, bina, shp, eqCells, unv, convv, nilv, faddv, addp, idxav, idxp, load1, load1m, loadn, loadnm, loadv, hget, hset, hrep, hdel, slicev, slice3v, bnd, shift1, lenv, capv, IntKind.bits, extractv, fieldv, indexv, min2v, max2v, mkiv, tasv, tasz, cellsA, fillA, buildv, stC, oneC, rowMB, intsA, plN, appE, appZ, appC, appS, srcB, appNZ, appNC, VwL, srcC, srcZ, srcM, isBoolT, isPtrT, isSliceT, uOk, Value.oneCell', Nat.reducePow, Int.reducePow, Nat.reduceAdd, Nat.reduceMul, Nat.reduceSub, Nat.reduceLT, Nat.reduceLeDiff, Nat.reduceEqDiff, Nat.reduceBEq, Nat.reduceDiv, Nat.reduceMod, ↓reduceIte, reduceCtorEq, Int.reduceToNat, Int.reduceLT, Int.reduceLE, TFCnQ, SeqQ, BlkQ, LoopQ, BodyQ, hd, q1, hin, t1, j1, j2, j3, FR.out]) | (refine CallV.exM (c4) (px _ _) (fun r2 => Sm.out ?_)) | refine WP.seq fun K hK => ?_ | refine WP.region (rvc_sound _ _ (Sm.out ?_)) | refine WP.drawK rfl mixed (by decide +kernel) (Sm.out ?_) | (refine Ob.mk ?_; focus (first | assumption | omega | decide | trivial | (intro hob; simp only [hob, ZF]; done) | (intros; (repeat' refine And.intro ?_ ?_) <;> first | assumption | omega | trivial | decide) | (intros; simp only [ZE] at *; (repeat' refine And.intro ?_ ?_) <;> first | assumption | omega | trivial))) | refine And.intro (Ob.out ?_) ?_ | refine WP.block ?_ | (refine WP.cond rfl (fun hc => ?_) (fun hc => ?_) <;> (try simp only [ZC, reduceCtorEq, ZD] at hc) <;> (try exact absurd hc (by decide)) <;> (try (exfalso; omega))) | ((first | refine WP.skip ?_ | refine WP.exit ?_); simp only [SeqQ, BlkQ, LoopQ, BodyQ, ↓reduceIte, Nat.reduceEqDiff, reduceCtorEq, look, true_and]) | refine WP.ret (Sm.out ?_) | (first | refine ExG.no (Sm.out ?_) | refine Or.inl (ExG.no (Sm.out ?_)) | refine Or.inl (And.intro (fun hg => absurd hg (by decide)) (ExG.no (Sm.out ?_)))) | (refine Rt.mk ?_; refine And.intro ?_ ?_ <;> (intro hg; first | exact absurd hg (by decide) | refine Sm.out ?_)) | (refine Nu.mk ?_; first | (fail_if_success have := nb1); intro nb1 | (fail_if_success have := nb2); intro nb2 | (fail_if_success have := nb3); intro nb3 | (fail_if_success have := nb4); intro nb4 | (fail_if_success have := nb5); intro nb5 | (fail_if_success have := nb6); intro nb6 | intro nbz) | (refine Fr.mk ?_; intro hfr; (first | (have hFRb : _ ≤ _ ∧ _ ≤ _ := And.intro hfr.1 hfr.2.1) | (have hFRb : _ ≤ _ := hfr.1) | skip); replace FR := Sm.mk (And.intro hfr FR.out); clear hfr; refine Sm.out ?_) | refine Two.mk ?_ ?_ | (refine Cs.mk ?_; intro hcs; first | exact False.elim hcs | (exfalso; omega) | (refine Sm.out ?_)) | go_step | omega | (simp only [maxLen_eq]; omega) | (refine Or.inr (Rt.mk ?_); refine And.intro ?_ ?_ <;> (intro hg; first | exact absurd hg (by decide) | refine Sm.out ?_))
      exact cont.out r2 _ (Sub.of_env [] (by rw [List.append_nil]; exact bH_rc nb1 nb2 _ h1.1 r2.1) (by simp [look]))
    have j4 : (kd == 4) = false := beq_eq_false_iff_ne.2 e4
    rw [if_neg e1, if_neg e2, if_neg e3, if_neg e4] at hst
    have q1' := congrArg (fun s : CA × (List Ky × Int) => s.1) hst
    have q2' := congrArg (fun s : CA × (List Ky × Int) => s.2.2) hst
    simp only at q1' q2'
    subst q1' q2'
    first | (have FRx := FR; clear FRx) | have FR := fr0S
    repeat' first | (refine Sm.mk ?_; try simp -dsimp only [ZK, rvc, drawF, headN, pureH, stp, dvc, calleeOf, gcall, pev, eff, newB, okd, og, ogs, ogo, ogp, slv, bltv, opd, litv, strip, one, both, putE, St.put, look, gdOf, gdv, picka, pickv, pickw, binv, bini, bins, binb, binp, binq, isSlT, bina, shp, eqCells, unv, convv, nilv, faddv, addp, idxav, idxp, load1, load1m, loadn, loadnm, loadv, hget, hset, hrep, hdel, slicev, slice3v, bnd, shift1, lenv, capv, IntKind.bits, extractv, fieldv, indexv, min2v, max2v, mkiv, tasv, tasz, cellsA, fillA, buildv, stC, oneC, rowMB, intsA, plN, appE, appZ, appC, appS, srcB, appNZ, appNC, VwL, srcC, srcZ, srcM, isBoolT, isPtrT, isSliceT, uOk, Value.oneCell', Nat.reducePow, Int.reducePow, Nat.reduceAdd, Nat.reduceMul, Nat.reduceSub, Nat.reduceLT, Nat.reduceLeDiff, Nat.reduceEqDiff, Nat.reduceBEq, Nat.reduceDiv, Nat.reduceMod, ↓reduceIte, reduceCtorEq, Int.reduceToNat, Int.reduceLT, Int.reduceLE, TFCnQ, SeqQ, BlkQ, LoopQ, BodyQ, hd, q1, hin, t1, j1, j2, j3, j4, FR.out]) | refine WP.seq fun K hK => ?_ | refine WP.region (rvc_sound _ _ (Sm.out ?_)) | refine WP.drawK rfl mixed (by decide +kernel) (Sm.out ?_) | (refine Ob.mk ?_; focus (first | assumption | omega | decide | trivial | (intro hob; simp only [hob, ZF]; done) | (intros; (repeat' refine And.intro ?_ ?_) <;> first | assumption | omega | trivial | decide) | (intros; simp only [ZE] at *; (repeat' refine And.intro ?_ ?_) <;> first | assumption | omega | trivial))) | refine And.intro (Ob.out ?_) ?_ | refine WP.block ?_ | (refine WP.cond rfl (fun hc => ?_) (fun hc => ?_) <;> (try simp only [ZC, reduceCtorEq, ZD] at hc) <;> (try exact absurd hc (by decide)) <;> (try (exfalso; omega))) | ((first | refine WP.skip ?_ | refine WP.exit ?_); simp only [SeqQ, BlkQ, LoopQ, BodyQ, ↓reduceIte, Nat.reduceEqDiff, reduceCtorEq, look, true_and]) | refine WP.ret (Sm.out ?_) | (first | refine ExG.no (Sm.out ?_) | refine Or.inl (ExG.no (Sm.out ?_)) | refine Or.inl (And.intro (fun hg => absurd hg (by decide)) (ExG.no (Sm.out ?_)))) | (refine Rt.mk ?_; refine And.intro ?_ ?_ <;> (intro hg; first | exact absurd hg (by decide) | refine Sm.out ?_)) | (refine Nu.mk ?_; first | (fail_if_success have := nb1); intro nb1 | (fail_if_success have := nb2); intro nb2 | (fail_if_success have := nb3); intro nb3 | (fail_if_success have := nb4); intro nb4 | (fail_if_success have := nb5); intro nb5 | (fail_if_success have := nb6); intro nb6 | intro nbz) | (refine Fr.mk ?_; intro hfr; (first | (have hFRb : _ ≤ _ ∧ _ ≤ _ := And.intro hfr.1 hfr.2.1) | (have hFRb : _ ≤ _ := hfr.1) | skip); replace FR := Sm.mk (And.intro hfr FR.out); clear hfr; refine Sm.out ?_) | refine Two.mk ?_ ?_ | (refine Cs.mk ?_; intro hcs; first | exact False.elim hcs | (exfalso; omega) | (refine Sm.out ?_)) | go_step | omega | (simp only [maxLen_eq]; omega) | (refine Or.inr (Rt.mk ?_); refine And.intro ?_ ?_ <;> (intro hg; first | exact absurd hg (by decide) | refine Sm.out ?_))
    exact cont.out r _ (Sub.of_env [] (by rw [List.append_nil, hGr]; exact (px _ _).trans (bH_rc nb1 nb2 _ h1.1 r.1)) (by simp [look]))
abbrev actTy : Ty := .st [.int .i64, .int .i64, msgTy]
theorem ac_rows : ∀ (rows : List (List AV)), (∀ r ∈ rows, Shp actTy r) → ∃ L : List Ac, L.length = rows.length ∧ rows.flatten = acs L
  | [], _ => ⟨[], rfl, rfl⟩
  | r :: rows, h => by
    obtain ⟨L, l1, l2⟩ := ac_rows rows fun x hx => h x (List.mem_cons_of_mem _ hx)
    have h0 := h r (List.mem_cons_self ..)
    unfold Shp ShpL at h0
    obtain ⟨_, y1, rfl, h1, h2⟩ := h0
    unfold ShpL at h2
    obtain ⟨_, y2, rfl, h3, h4⟩ := h2
    unfold ShpL at h4
    obtain ⟨_, y3, rfl, h5, h6⟩ := h4
    unfold Shp at h1 h3
    obtain ⟨a, rfl, -⟩ := h1
    obtain ⟨b, rfl, -⟩ := h3
    unfold ShpL at h6
    subst h6
    obtain ⟨m, rfl⟩ := msg_shp h5
    exact ⟨⟨a, b, m⟩ :: L, by simp [l1], by simp [l2, acs]⟩
theorem plays_law {y : AV} (hy : Shp (.sl actTy) [y]) : ACt Try.prog 3 [y] [] (fun r _ => r = bv true) := by
  unfold Shp at hy
  obtain ⟨rows, e, hr⟩ := hy
  obtain rfl : y = _ := (List.cons.inj e).1
  obtain ⟨L, l1, l2⟩ := ac_rows rows hr
  rw [l2]
  exact plays_ct L rows.length l1
end Go.Proofs.Ytbkojpkdphggeaa
