/-
  The walks and the laws that the statement leans on, part 10.
-/
import Derived.Test.YtbkojpkdphggeaaZ9
namespace Go.Proofs.Ytbkojpkdphggeaa
open Go
set_option linter.unusedVariables false
set_option linter.unusedSimpArgs false
/-- A block of ours, given up for good: the callee sees it as one that nobody writes; beside it blocks that are lent. -/
theorem ACt.frzV {P : Program} {f : FuncId} {args args' : List AV} {b : Nat} {m : MB} {F : Hp} {p : AV → Hp → Prop} (h : ACt P f args' F p) (hvw : VwL [(b, m)] args args') :
    ACt P f args ((b, m) :: F) p := by
  intro cx vs hK hw hs hv
  have hlen := hvw.length
  have hbl := keys_lt hw _ (List.mem_cons_self ..)
  have hnd := hw.nodup
  simp only [List.map_cons, List.nodup_cons] at hnd
  have himm : ∀ c, imm cx cx.w0 ((b, m) :: F) c → cx.I c := by
    rintro c (hc | ⟨h1, h2, h3⟩)
    · exact hc
    · rcases h1 with h1 | h1
      · rw [hK] at h1
        obtain ⟨x, hx, he⟩ := List.mem_map.1 h1
        exact absurd he (h3 x hx)
      · omega
  have hI : ∀ c, (cx.I c ∨ c = b) → c < cx.w0.heap.size ∧ c ∉ F.map (·.1) := by
    rintro c (hc | rfl)
    · refine ⟨(cx.hI c hc).1, fun hm => (cx.hI c hc).2 ?_⟩
      rw [hK]; exact List.mem_cons_of_mem _ hm
    · exact ⟨hbl, hnd.1⟩
  have hI2 : ∀ c, cx.I c → c < cx.w0.heap.size ∧ c ∉ [b] := fun c hc => ⟨(cx.hI c hc).1, fun hm => (cx.hI c hc).2 (by rw [hK, List.mem_singleton.1 hm]; exact List.mem_cons_self ..)⟩
  have hw2 : OkW ⟨cx.w0, cx.I, [b], hI2⟩ [(b, m)] cx.w0 := ⟨by simp, fun x hx => .inl (by rw [List.mem_singleton.1 hx]; simp), fun x hx => by
    rw [List.mem_singleton.1 hx]
    exact (hw.mem _ (List.mem_cons_self ..)).mono (fun c hc => ⟨.inl (himm c hc), rfl⟩) rfl, ⟨rfl, rfl, rfl, Nat.le_refl _, fun _ _ _ => rfl⟩⟩
  have himm2 : ∀ c, imm ⟨cx.w0, cx.I, [b], hI2⟩ cx.w0 [(b, m)] c → cx.I c := by
    rintro c (hc | ⟨h1, h2, h3⟩)
    · exact hc
    · have := h3 (b, m) (List.mem_cons_self ..)
      rcases h1 with h1 | h1
      · simp at h1; exact absurd h1.symm this
      · simp only at h1 h2; omega
  have := h ⟨cx.w0, fun c => cx.I c ∨ c = b, F.map (·.1), hI⟩ vs rfl
    ⟨hnd.2, fun x hx => .inl (List.mem_map_of_mem hx), fun x hx => (hw.mem x (List.mem_cons_of_mem _ hx)).mono (fun c hc => ⟨.inl (.inl (himm c hc)), rfl⟩) rfl, ⟨rfl, rfl, rfl, Nat.le_refl _, fun _ _ _ => rfl⟩⟩
    (by omega) (fun i hi => by
      have hi' : i < args.length := by omega
      exact (hvw.get i hi').rep hw2 (fun c hc => .inl (himm2 c hc)) (fun x hx => by simp at hx; subst hx; exact .inr rfl) ((hv i hi').mono fun c hc => ⟨.inl hc, rfl⟩))
  refine this.mono ?_
  rintro e w' ⟨v, r, F', he, hp, hw', hr⟩
  have e1 := hw.ext
  have e2 := hw'.ext
  have hsz : cx.w0.heap.size ≤ w'.heap.size := e2.size
  have hkey : ∀ x ∈ F', x.1 ∈ cx.K ∨ cx.w0.heap.size ≤ x.1 := fun x hx => by
    rcases hw'.keys x hx with h | h
    · exact .inl (by rw [hK]; exact List.mem_cons_of_mem _ h)
    · exact .inr h
  have hbF : ∀ x ∈ F', x.1 ≠ b := fun x hx he => by
    rcases hw'.keys x hx with h | h
    · exact hnd.1 (he ▸ h)
    · simp only at h; omega
  have hIm : ∀ c, imm ⟨cx.w0, fun c => cx.I c ∨ c = b, F.map (·.1), hI⟩ w' F' c → imm cx w' F' c := by
    rintro c ((hc | rfl) | ⟨h1, h2, h3⟩)
    · exact .inl hc
    · exact .inr ⟨.inl (by rw [hK]; exact List.mem_cons_self ..), by omega, hbF⟩
    · refine .inr ⟨?_, h2, h3⟩
      rcases h1 with h1 | h1
      · exact .inl (by rw [hK]; exact List.mem_cons_of_mem _ h1)
      · exact .inr h1
  refine ⟨v, r, F', he, hp, ⟨hw'.nodup, hkey, fun x hx => (hw'.mem x hx).mono (fun c hc => ⟨hIm c hc, rfl⟩) rfl, ?_⟩, hr.mono fun c hc => ⟨hIm c hc, rfl⟩⟩
  exact ⟨e2.os.trans e1.os, e2.tape.trans e1.tape, e2.output.trans e1.output, Nat.le_trans e1.size e2.size, fun c hc hk => (e2.blk c hc (fun hm => hk (by rw [hK]; exact List.mem_cons_of_mem _ hm))).trans (e1.blk c hc hk)⟩
theorem kV0 : kV [] = nsl := rfl
end Go.Proofs.Ytbkojpkdphggeaa
namespace Go.Proofs.Ytbkojpkdphggeaa
open Go
set_option linter.unusedVariables false
set_option linter.unusedSimpArgs false
theorem TFCnO : (((((((type_of% tyc0) ∧ (type_of% tyc3)) ∧ ((type_of% zmb3) ∧ (type_of% tyc4))) ∧ (((type_of% zmb4) ∧ (type_of% tyc25)) ∧ ((type_of% mth25_31) ∧ (type_of% mth25_35)))) ∧ ((((type_of% mth25_33) ∧ (type_of% mth25_32)) ∧ ((type_of% con25) ∧ (type_of% zmb25))) ∧ (((type_of% tyc28) ∧ (type_of% elt28)) ∧ ((type_of% mkz28) ∧ ((type_of% mkc28) ∧ (type_of% apT28)))))) ∧ (((((type_of% elk28) ∧ (type_of% zmb28)) ∧ ((type_of% tyc29) ∧ (type_of% elt29))) ∧ (((type_of% mkz29) ∧ (type_of% mkc29)) ∧ ((type_of% apT29) ∧ ((type_of% elk29) ∧ (type_of% zmb29))))) ∧ ((((type_of% tyc33) ∧ (type_of% zmb33)) ∧ ((type_of% tyc34) ∧ (type_of% tyc37))) ∧ (((type_of% foff37_0) ∧ (type_of% fpart37_0)) ∧ ((type_of% foff37_1) ∧ ((type_of% fpart37_1) ∧ (type_of% foff37_2))))))) ∧ ((((((type_of% fpart37_2) ∧ (type_of% zmb37)) ∧ ((type_of% bldT37) ∧ (type_of% tyc50))) ∧ (((type_of% foff50_0) ∧ (type_of% fpart50_0)) ∧ ((type_of% foff50_1) ∧ (type_of% fpart50_1)))) ∧ ((((type_of% foff50_2) ∧ (type_of% fpart50_2)) ∧ ((type_of% foff50_3) ∧ (type_of% fpart50_3))) ∧ (((type_of% foff50_4) ∧ (type_of% fpart50_4)) ∧ ((type_of% fe50) ∧ ((type_of% zmb50) ∧ (type_of% bldT50)))))) ∧ (((((type_of% tyc53) ∧ (type_of% foff53_0)) ∧ ((type_of% fpart53_0) ∧ (type_of% foff53_1))) ∧ (((type_of% fpart53_1) ∧ (type_of% zmb53)) ∧ ((type_of% bldT53) ∧ ((type_of% Try.underlying0) ∧ (type_of% Try.underlying3))))) ∧ ((((type_of% Try.underlying4) ∧ (type_of% Try.underlying25)) ∧ ((type_of% Try.underlying28) ∧ (type_of% Try.underlying29))) ∧ (((type_of% Try.underlying33) ∧ (type_of% Try.underlying34)) ∧ ((type_of% Try.underlying37) ∧ ((type_of% Try.underlying50) ∧ (type_of% Try.underlying53)))))))) :=
  ⟨⟨⟨⟨⟨⟨tyc0, tyc3⟩, ⟨zmb3, tyc4⟩⟩, ⟨⟨zmb4, tyc25⟩, ⟨mth25_31, mth25_35⟩⟩⟩, ⟨⟨⟨mth25_33, mth25_32⟩, ⟨con25, zmb25⟩⟩, ⟨⟨tyc28, elt28⟩, ⟨mkz28, ⟨mkc28, apT28⟩⟩⟩⟩⟩, ⟨⟨⟨⟨elk28, zmb28⟩, ⟨tyc29, elt29⟩⟩, ⟨⟨mkz29, mkc29⟩, ⟨apT29, ⟨elk29, zmb29⟩⟩⟩⟩, ⟨⟨⟨tyc33, zmb33⟩, ⟨tyc34, tyc37⟩⟩, ⟨⟨foff37_0, fpart37_0⟩, ⟨foff37_1, ⟨fpart37_1, foff37_2⟩⟩⟩⟩⟩⟩, ⟨⟨⟨⟨⟨fpart37_2, zmb37⟩, ⟨bldT37, tyc50⟩⟩, ⟨⟨foff50_0, fpart50_0⟩, ⟨foff50_1, fpart50_1⟩⟩⟩, ⟨⟨⟨foff50_2, fpart50_2⟩, ⟨foff50_3, fpart50_3⟩⟩, ⟨⟨foff50_4, fpart50_4⟩, ⟨fe50, ⟨zmb50, bldT50⟩⟩⟩⟩⟩, ⟨⟨⟨⟨tyc53, foff53_0⟩, ⟨fpart53_0, foff53_1⟩⟩, ⟨⟨fpart53_1, zmb53⟩, ⟨bldT53, ⟨Try.underlying0, Try.underlying3⟩⟩⟩⟩, ⟨⟨⟨Try.underlying4, Try.underlying25⟩, ⟨Try.underlying28, Try.underlying29⟩⟩, ⟨⟨Try.underlying33, Try.underlying34⟩, ⟨Try.underlying37, ⟨Try.underlying50, Try.underlying53⟩⟩⟩⟩⟩⟩⟩
theorem rn_one {x : Int} (h : x < 128) : rn [x] = [x] := by
  show rnF [x] 1 0 = [x]
  rw [rnF_succ, if_pos (by simp)]
  have e : elR [x] 0 = (x, 1) := by unfold elR; rw [if_pos (show [x].getD 0 0 < 128 from h)]; rfl
  rw [e]; rfl
theorem nmB_one {x : Int} (h : letB x = true) : nmB [x] = true := nmB_true ⟨by simp, by simp, h, fun i hi => by
  obtain rfl : i = 0 := by simpa using hi
  exact .inl h⟩
abbrev sA : ByteArray := ⟨#[97]⟩
abbrev sR : ByteArray := ⟨#[114]⟩
theorem nm_a : nmS sA = true := by
  unfold nmS
  rw [show ub sA.data.toList = [97] from rfl, rn_one (by decide)]
  exact nmB_one (by decide)
theorem nm_r : nmS sR = true := by
  unfold nmS
  rw [show ub sR.data.toList = [114] from rfl, rn_one (by decide)]
  exact nmB_one (by decide)
abbrev k0 : Ky := ⟨sA, sR, false, 1, false⟩
abbrev m0 : Mg := ⟨sA, false, [k0]⟩
theorem kr0 : krB k0 = true := by unfold krB; rw [nm_a, nm_r]; rfl
theorem mr0 : MR m0 := ⟨by simp, by simp, fun i hi => by
  obtain rfl : i = 0 := by simpa using hi
  exact ⟨kr0, rfl, rfl, by simp⟩⟩
theorem hz0 : ∀ k ∈ m0.ks, Kz k := fun k hk => by
  rw [List.mem_singleton.1 hk]
  exact ⟨by decide, by decide⟩
abbrev A0 : CA := ⟨[], [], 0⟩
abbrev A1 : CA := ⟨[⟨false, m0⟩], [], 0⟩
abbrev A2 : CA := ⟨[⟨false, m0⟩, ⟨false, m0⟩], [], 0⟩
abbrev A3 : CA := ⟨[⟨false, m0⟩, ⟨true, m0⟩], [k0], 0⟩
abbrev A4 : CA := ⟨[⟨true, m0⟩, ⟨true, m0⟩], [k0], 0⟩
theorem hr0 : hrL [] [k0] = [k0] := by
  rw [hrL_cons, hrL_nil]; unfold addH; rw [hasB_f (by simp)]; rfl
theorem hr1 : hrL [k0] [k0] = [k0] := by
  rw [hrL_cons, hrL_nil]; unfold addH; rw [hasB_t (by simp)]; rfl
theorem st1 : pst A0 m0 = (A1, 0) := by unfold pst; rw [mrB_t mr0, if_neg (by decide), if_neg (by simp)]; rfl
theorem st2 : dbl A1 0 = (A2, 0) := by unfold dbl; rw [dif_pos (by simp), if_neg (by simp)]; rfl
theorem st3 : dlv A2 0 = (A3, ([], 0)) := by
  unfold dlv
  rw [dif_pos (by simp)]
  show (if false = true then _ else (_ : CA × (List Ky × Int))) = _
  rw [if_neg (by decide)]
  show ((⟨_, hrL [] [k0], _⟩ : CA), _) = _
  rw [hr0]; rfl
theorem st4 : dlv A3 0 = (A4, ([], 0)) := by
  unfold dlv
  rw [dif_pos (by simp)]
  show (if false = true then _ else (_ : CA × (List Ky × Int))) = _
  rw [if_neg (by decide)]
  show ((⟨_, hrL [k0] [k0], _⟩ : CA), _) = _
  rw [hr1]; rfl
theorem okA {a : CA} (h1 : a.l.length ≤ 60) (h2 : ∀ p ∈ a.l, p.m = m0) (h3 : a.h.length ≤ 50000) : AOk a := ⟨h1, fun p hp => by rw [h2 p hp]; exact mr0, h3⟩
def g0 (c : Nat) : CS c A0 := ⟨(none, (0, 0)), by simp [cH, fB, hB], ⟨fun _ => rfl, fun q hq => (by cases hq), fun h => absurd rfl h⟩⟩
theorem cH0 (c : Nat) : cH c A0 (g0 c).1 = [(c, chM nsl nsl (iv .u64 0))] := rfl
theorem post0 (c b : Nat) : ACt Try.prog 21 [pt c 0, .agg [.lit (.string sA), bv false, ms b 0 1 1]] [(b, kb k0), (c, chM nsl nsl (iv .u64 0))] (fun r F' => ∃ g : CS c A1, r = iv .i64 0 ∧ F' = cH c A1 g.1) := by
  have h := post_c c A0 (okA (by simp) (by simp) (by simp)) (g0 c) m0 hz0
  rw [st1, cH0] at h
  refine ACt.frzV h ⟨.same _, ?_, trivial⟩
  refine .agg rfl fun i hi => ?_
  have hi : i < 3 := hi
  rcases (by omega : i = 0 ∨ i = 1 ∨ i = 2) with rfl | rfl | rfl
  · exact .same _
  · exact .same _
  · exact vw_row (by omega) (by rw [maxLen_eq]; omega)
set_option maxHeartbeats 2000000 in
theorem awake_ct : ACt Try.prog 6 [] [] (Fn (bv true)) := by
  have cN := new_ct
  have cP := post0
  have zA : (⟨#[97]⟩ : ByteArray) = sA := rfl
  refine ACt.intro Try.func6 rfl (by kernel_rfl) (by simp [Try.ntmps6]) (fun cx => ?_)
  simp only [argE, Try.ntmps6, Try.results6]
  first | (have FRx := FR; clear FRx) | (have FR : Sm (¬ ((1 : Nat) = 0)) := Sm.mk Nat.one_ne_zero)
  repeat' first
    | (refine Sm.mk ?_; try simp -dsimp only [ZK, rvc, drawF, headN, pureH, stp, dvc, calleeOf, gcall, pev, eff, newB, okd, og, ogs, ogo, ogp, slv, bltv, opd, litv, strip, one, both, putE, St.put, look, gdOf, gdv, picka, pickv, pickw, binv, bini, bins, binb, binp, binq, isSlT, bina, shp, eqCells, unv, convv, nilv, faddv, addp, idxav, idxp, load1, load1m, loadn, loadnm, loadv, hget, hset, hrep, hdel, slicev, slice3v, bnd, shift1, lenv, capv, IntKind.bits, extractv, fieldv, indexv, min2v, max2v, mkiv, tasv, tasz, cellsA, fillA, buildv, stC, oneC, rowMB, intsA, plN, appE, appZ, appC, appS, srcB, appNZ, appNC, VwL, srcC, srcZ, srcM, isBoolT, isPtrT, isSliceT, uOk, Value.oneCell', Nat.reducePow, Int.reducePow, Nat.reduceAdd, Nat.reduceMul, Nat.reduceSub, Nat.reduceLT, Nat.reduceLeDiff, Nat.reduceEqDiff, Nat.reduceBEq, Nat.reduceDiv, Nat.reduceMod, ↓reduceIte, reduceCtorEq, Int.reduceToNat, Int.reduceLT, Int.reduceLE, TFCnO, SeqQ, BlkQ, LoopQ, BodyQ, List.append_nil, FR.out])
    | (refine CallV.new1 (F := []) (List.Perm.refl _) (cN) rfl (Sm.out ?_))
    | (refine CallV.exM (cP _ _) (pmz _) (fun g1 => Sm.out ?_))
    | (refine WP.seq fun K hK => ?_)
    | ((fail_if_success (show WP _ _ _ (.region 3 _ _) _ _)); refine WP.region (rvc_sound _ _ (Sm.out ?_)))
    | ((fail_if_success (show WP _ _ _ (.region 3 _ _) _ _)); refine WP.drawK rfl mixed (by decide +kernel) (Sm.out ?_))
    | (refine Ob.mk ?_; focus (first | assumption | omega | decide | trivial | (intro hob; simp only [hob, ZF]; done) | (intros; (repeat' refine And.intro ?_ ?_) <;> first | assumption | omega | trivial | decide) | (intros; simp only [ZE] at *; (repeat' refine And.intro ?_ ?_) <;> first | assumption | omega | trivial)))
    | (refine And.intro (Ob.out ?_) ?_)
    | (refine WP.block ?_)
    | (refine WP.cond rfl (fun hc => ?_) (fun hc => ?_) <;> (try simp only [ZC, reduceCtorEq, ZD] at hc) <;> (try (exact absurd hc (by decide))) <;> (try (exfalso; omega)))
    | ((first | refine WP.skip ?_ | refine WP.exit ?_); simp only [SeqQ, BlkQ, LoopQ, BodyQ, ↓reduceIte, Nat.reduceEqDiff, reduceCtorEq, look, true_and])
    | (refine WP.ret (Sm.out ?_))
    | (first | refine ExG.no (Sm.out ?_) | refine Or.inl (ExG.no (Sm.out ?_)) | refine Or.inl (And.intro (fun hg => absurd hg (by decide)) (ExG.no (Sm.out ?_))))
    | (refine Rt.mk ?_; refine And.intro ?_ ?_ <;> (intro hg; first | exact absurd hg (by decide) | refine Sm.out ?_))
    | (refine Nu.mk ?_; first | (fail_if_success (have := nb1)); intro nb1 | (fail_if_success (have := nb2)); intro nb2 | (fail_if_success (have := nb3)); intro nb3 | (fail_if_success (have := nb4)); intro nb4 | (fail_if_success (have := nb5)); intro nb5 | (fail_if_success (have := nb6)); intro nb6 | (fail_if_success (have := nb7)); intro nb7 | (fail_if_success (have := nb8)); intro nb8 | intro nbz)
    | (refine Fr.mk ?_; intro hfr; (first | (have hFRb : _ ≤ _ ∧ _ ≤ _ := And.intro hfr.1 hfr.2.1) | (have hFRb : _ ≤ _ := hfr.1) | skip); replace FR := Sm.mk (And.intro hfr FR.out); clear hfr; refine Sm.out ?_)
    | (refine Two.mk ?_ ?_)
    | (refine Cs.mk ?_; intro hcs; first | exact False.elim hcs | (exfalso; omega) | (refine Sm.out ?_))
    | go_step
    | omega
    | (simp only [maxLen_eq]; omega)
  have c2 := dbl_c nb1 A1 (okA (by simp) (by simp) (by simp)) g1 0
  rw [st2] at c2
  simp only at c2
  first | (have FRx := FR; clear FRx) | (have FR : Sm (¬ ((1 : Nat) = 0)) := Sm.mk Nat.one_ne_zero)
  repeat' first
    | (refine Sm.mk ?_; try simp -dsimp only [ZK, rvc, drawF, headN, pureH, stp, dvc, calleeOf, gcall, pev, eff, newB, okd, og, ogs, ogo, ogp, slv, bltv, opd, litv, strip, one, both, putE, St.put, look, gdOf, gdv, picka, pickv, pickw, binv, bini, bins, binb, binp, binq, isSlT, bina, shp, eqCells, unv, convv, nilv, faddv, addp, idxav, idxp, load1, load1m, loadn, loadnm, loadv, hget, hset, hrep, hdel, slicev, slice3v, bnd, shift1, lenv, capv, IntKind.bits, extractv, fieldv, indexv, min2v, max2v, mkiv, tasv, tasz, cellsA, fillA, buildv, stC, oneC, rowMB, intsA, plN, appE, appZ, appC, appS, srcB, appNZ, appNC, VwL, srcC, srcZ, srcM, isBoolT, isPtrT, isSliceT, uOk, Value.oneCell', Nat.reducePow, Int.reducePow, Nat.reduceAdd, Nat.reduceMul, Nat.reduceSub, Nat.reduceLT, Nat.reduceLeDiff, Nat.reduceEqDiff, Nat.reduceBEq, Nat.reduceDiv, Nat.reduceMod, ↓reduceIte, reduceCtorEq, Int.reduceToNat, Int.reduceLT, Int.reduceLE, TFCnO, SeqQ, BlkQ, LoopQ, BodyQ, List.append_nil, FR.out])
    | (refine CallV.exM (c2) (pmz _) (fun g2 => Sm.out ?_))
    | (refine WP.seq fun K hK => ?_)
    | ((fail_if_success (show WP _ _ _ (.region 4 _ _) _ _)); refine WP.region (rvc_sound _ _ (Sm.out ?_)))
    | ((fail_if_success (show WP _ _ _ (.region 4 _ _) _ _)); refine WP.drawK rfl mixed (by decide +kernel) (Sm.out ?_))
    | (refine Ob.mk ?_; focus (first | assumption | omega | decide | trivial | (intro hob; simp only [hob, ZF]; done) | (intros; (repeat' refine And.intro ?_ ?_) <;> first | assumption | omega | trivial | decide) | (intros; simp only [ZE] at *; (repeat' refine And.intro ?_ ?_) <;> first | assumption | omega | trivial)))
    | (refine And.intro (Ob.out ?_) ?_)
    | (refine WP.block ?_)
    | (refine WP.cond rfl (fun hc => ?_) (fun hc => ?_) <;> (try simp only [ZC, reduceCtorEq, ZD] at hc) <;> (try (exact absurd hc (by decide))) <;> (try (exfalso; omega)))
    | ((first | refine WP.skip ?_ | refine WP.exit ?_); simp only [SeqQ, BlkQ, LoopQ, BodyQ, ↓reduceIte, Nat.reduceEqDiff, reduceCtorEq, look, true_and])
    | (refine WP.ret (Sm.out ?_))
    | (first | refine ExG.no (Sm.out ?_) | refine Or.inl (ExG.no (Sm.out ?_)) | refine Or.inl (And.intro (fun hg => absurd hg (by decide)) (ExG.no (Sm.out ?_))))
    | (refine Rt.mk ?_; refine And.intro ?_ ?_ <;> (intro hg; first | exact absurd hg (by decide) | refine Sm.out ?_))
    | (refine Nu.mk ?_; first | (fail_if_success (have := nb1)); intro nb1 | (fail_if_success (have := nb2)); intro nb2 | (fail_if_success (have := nb3)); intro nb3 | (fail_if_success (have := nb4)); intro nb4 | (fail_if_success (have := nb5)); intro nb5 | (fail_if_success (have := nb6)); intro nb6 | (fail_if_success (have := nb7)); intro nb7 | (fail_if_success (have := nb8)); intro nb8 | intro nbz)
    | (refine Fr.mk ?_; intro hfr; (first | (have hFRb : _ ≤ _ ∧ _ ≤ _ := And.intro hfr.1 hfr.2.1) | (have hFRb : _ ≤ _ := hfr.1) | skip); replace FR := Sm.mk (And.intro hfr FR.out); clear hfr; refine Sm.out ?_)
    | (refine Two.mk ?_ ?_)
    | (refine Cs.mk ?_; intro hcs; first | exact False.elim hcs | (exfalso; omega) | (refine Sm.out ?_))
    | go_step
    | omega
    | (simp only [maxLen_eq]; omega)
  have c3 := del_c nb1 A2 (okA (by simp) (by simp) (by simp)) g2 0
  rw [st3] at c3
  simp only [kV0] at c3
  first | (have FRx := FR; clear FRx) | (have FR : Sm (¬ ((1 : Nat) = 0)) := Sm.mk Nat.one_ne_zero)
  repeat' first
    | (refine Sm.mk ?_; try simp -dsimp only [ZK, rvc, drawF, headN, pureH, stp, dvc, calleeOf, gcall, pev, eff, newB, okd, og, ogs, ogo, ogp, slv, bltv, opd, litv, strip, one, both, putE, St.put, look, gdOf, gdv, picka, pickv, pickw, binv, bini, bins, binb, binp, binq, isSlT, bina, shp, eqCells, unv, convv, nilv, faddv, addp, idxav, idxp, load1, load1m, loadn, loadnm, loadv, hget, hset, hrep, hdel, slicev, slice3v, bnd, shift1, lenv, capv, IntKind.bits, extractv, fieldv, indexv, min2v, max2v, mkiv, tasv, tasz, cellsA, fillA, buildv, stC, oneC, rowMB, intsA, plN, appE, appZ, appC, appS, srcB, appNZ, appNC, VwL, srcC, srcZ, srcM, isBoolT, isPtrT, isSliceT, uOk, Value.oneCell', Nat.reducePow, Int.reducePow, Nat.reduceAdd, Nat.reduceMul, Nat.reduceSub, Nat.reduceLT, Nat.reduceLeDiff, Nat.reduceEqDiff, Nat.reduceBEq, Nat.reduceDiv, Nat.reduceMod, ↓reduceIte, reduceCtorEq, Int.reduceToNat, Int.reduceLT, Int.reduceLE, TFCnO, SeqQ, BlkQ, LoopQ, BodyQ, List.append_nil, FR.out])
    | (refine CallV.exM (c3) (pmz _) (fun g3 => Sm.out ?_))
    | (refine WP.seq fun K hK => ?_)
    | ((fail_if_success (show WP _ _ _ (.region 5 _ _) _ _)); refine WP.region (rvc_sound _ _ (Sm.out ?_)))
    | ((fail_if_success (show WP _ _ _ (.region 5 _ _) _ _)); refine WP.drawK rfl mixed (by decide +kernel) (Sm.out ?_))
    | (refine Ob.mk ?_; focus (first | assumption | omega | decide | trivial | (intro hob; simp only [hob, ZF]; done) | (intros; (repeat' refine And.intro ?_ ?_) <;> first | assumption | omega | trivial | decide) | (intros; simp only [ZE] at *; (repeat' refine And.intro ?_ ?_) <;> first | assumption | omega | trivial)))
    | (refine And.intro (Ob.out ?_) ?_)
    | (refine WP.block ?_)
    | (refine WP.cond rfl (fun hc => ?_) (fun hc => ?_) <;> (try simp only [ZC, reduceCtorEq, ZD] at hc) <;> (try (exact absurd hc (by decide))) <;> (try (exfalso; omega)))
    | ((first | refine WP.skip ?_ | refine WP.exit ?_); simp only [SeqQ, BlkQ, LoopQ, BodyQ, ↓reduceIte, Nat.reduceEqDiff, reduceCtorEq, look, true_and])
    | (refine WP.ret (Sm.out ?_))
    | (first | refine ExG.no (Sm.out ?_) | refine Or.inl (ExG.no (Sm.out ?_)) | refine Or.inl (And.intro (fun hg => absurd hg (by decide)) (ExG.no (Sm.out ?_))))
    | (refine Rt.mk ?_; refine And.intro ?_ ?_ <;> (intro hg; first | exact absurd hg (by decide) | refine Sm.out ?_))
    | (refine Nu.mk ?_; first | (fail_if_success (have := nb1)); intro nb1 | (fail_if_success (have := nb2)); intro nb2 | (fail_if_success (have := nb3)); intro nb3 | (fail_if_success (have := nb4)); intro nb4 | (fail_if_success (have := nb5)); intro nb5 | (fail_if_success (have := nb6)); intro nb6 | (fail_if_success (have := nb7)); intro nb7 | (fail_if_success (have := nb8)); intro nb8 | intro nbz)
    | (refine Fr.mk ?_; intro hfr; (first | (have hFRb : _ ≤ _ ∧ _ ≤ _ := And.intro hfr.1 hfr.2.1) | (have hFRb : _ ≤ _ := hfr.1) | skip); replace FR := Sm.mk (And.intro hfr FR.out); clear hfr; refine Sm.out ?_)
    | (refine Two.mk ?_ ?_)
    | (refine Cs.mk ?_; intro hcs; first | exact False.elim hcs | (exfalso; omega) | (refine Sm.out ?_))
    | go_step
    | omega
    | (simp only [maxLen_eq]; omega)
  have c4 := del_c nb1 A3 (okA (by simp) (by simp) (by simp)) g3 0
  rw [st4] at c4
  simp only [kV0] at c4
  first | (have FRx := FR; clear FRx) | (have FR : Sm (¬ ((1 : Nat) = 0)) := Sm.mk Nat.one_ne_zero)
  repeat' first
    | (refine Sm.mk ?_; try simp -dsimp only [ZK, rvc, drawF, headN, pureH, stp, dvc, calleeOf, gcall, pev, eff, newB, okd, og, ogs, ogo, ogp, slv, bltv, opd, litv, strip, one, both, putE, St.put, look, gdOf, gdv, picka, pickv, pickw, binv, bini, bins, binb, binp, binq, isSlT, bina, shp, eqCells, unv, convv, nilv, faddv, addp, idxav, idxp, load1, load1m, loadn, loadnm, loadv, hget, hset, hrep, hdel, slicev, slice3v, bnd, shift1, lenv, capv, IntKind.bits, extractv, fieldv, indexv, min2v, max2v, mkiv, tasv, tasz, cellsA, fillA, buildv, stC, oneC, rowMB, intsA, plN, appE, appZ, appC, appS, srcB, appNZ, appNC, VwL, srcC, srcZ, srcM, isBoolT, isPtrT, isSliceT, uOk, Value.oneCell', Nat.reducePow, Int.reducePow, Nat.reduceAdd, Nat.reduceMul, Nat.reduceSub, Nat.reduceLT, Nat.reduceLeDiff, Nat.reduceEqDiff, Nat.reduceBEq, Nat.reduceDiv, Nat.reduceMod, ↓reduceIte, reduceCtorEq, Int.reduceToNat, Int.reduceLT, Int.reduceLE, TFCnO, SeqQ, BlkQ, LoopQ, BodyQ, List.append_nil, FR.out])
    | (refine CallV.exM (c4) (pmz _) (fun g4 => Sm.out ?_))
    | (refine WP.seq fun K hK => ?_)
    | ((fail_if_success (show WP _ _ _ (.region 6 _ _) _ _)); refine WP.region (rvc_sound _ _ (Sm.out ?_)))
    | ((fail_if_success (show WP _ _ _ (.region 6 _ _) _ _)); refine WP.drawK rfl mixed (by decide +kernel) (Sm.out ?_))
    | (refine Ob.mk ?_; focus (first | assumption | omega | decide | trivial | (intro hob; simp only [hob, ZF]; done) | (intros; (repeat' refine And.intro ?_ ?_) <;> first | assumption | omega | trivial | decide) | (intros; simp only [ZE] at *; (repeat' refine And.intro ?_ ?_) <;> first | assumption | omega | trivial)))
    | (refine And.intro (Ob.out ?_) ?_)
    | (refine WP.block ?_)
    | (refine WP.cond rfl (fun hc => ?_) (fun hc => ?_) <;> (try simp only [ZC, reduceCtorEq, ZD] at hc) <;> (try (exact absurd hc (by decide))) <;> (try (exfalso; omega)))
    | ((first | refine WP.skip ?_ | refine WP.exit ?_); simp only [SeqQ, BlkQ, LoopQ, BodyQ, ↓reduceIte, Nat.reduceEqDiff, reduceCtorEq, look, true_and])
    | (refine WP.ret (Sm.out ?_))
    | (first | refine ExG.no (Sm.out ?_) | refine Or.inl (ExG.no (Sm.out ?_)) | refine Or.inl (And.intro (fun hg => absurd hg (by decide)) (ExG.no (Sm.out ?_))))
    | (refine Rt.mk ?_; refine And.intro ?_ ?_ <;> (intro hg; first | exact absurd hg (by decide) | refine Sm.out ?_))
    | (refine Nu.mk ?_; first | (fail_if_success (have := nb1)); intro nb1 | (fail_if_success (have := nb2)); intro nb2 | (fail_if_success (have := nb3)); intro nb3 | (fail_if_success (have := nb4)); intro nb4 | (fail_if_success (have := nb5)); intro nb5 | (fail_if_success (have := nb6)); intro nb6 | (fail_if_success (have := nb7)); intro nb7 | (fail_if_success (have := nb8)); intro nb8 | intro nbz)
    | (refine Fr.mk ?_; intro hfr; (first | (have hFRb : _ ≤ _ ∧ _ ≤ _ := And.intro hfr.1 hfr.2.1) | (have hFRb : _ ≤ _ := hfr.1) | skip); replace FR := Sm.mk (And.intro hfr FR.out); clear hfr; refine Sm.out ?_)
    | (refine Two.mk ?_ ?_)
    | (refine Cs.mk ?_; intro hcs; first | exact False.elim hcs | (exfalso; omega) | (refine Sm.out ?_))
    | go_step
    | omega
    | (simp only [maxLen_eq]; omega)
  have c5 := flying_c nb1 A4 (okA (by simp) (by simp) (by simp)) g4
  have c6 := heard_c nb1 A4 (okA (by simp) (by simp) (by simp)) g4
  have e5 : flR A4.l = .sl 2 [bv true, .lit (.string sA), bv false, .sl 1 (kcs [k0]), bv true, .lit (.string sA), bv false, .sl 1 (kcs [k0])] := rfl
  have e6 : kV A4.h = .sl 1 (kcs [k0]) := rfl
  rw [e5] at c5
  rw [e6] at c6
  obtain ⟨K1, hK1⟩ : ∃ K, K = kcs [k0] := ⟨_, rfl⟩
  rw [← hK1] at c5 c6
  obtain ⟨G, hG⟩ : ∃ G, G = cH nb1 A4 g4.1 := ⟨_, rfl⟩
  rw [← hG] at c5 c6
  simp only [← hG]
  first | (have FRx := FR; clear FRx) | (have FR : Sm (¬ ((1 : Nat) = 0)) := Sm.mk Nat.one_ne_zero)
  repeat' first
    | (refine Sm.mk ?_; try simp -dsimp only [ZK, rvc, drawF, headN, pureH, stp, dvc, calleeOf, gcall, pev, eff, newB, okd, og, ogs, ogo, ogp, slv, bltv, opd, litv, strip, one, both, putE, St.put, look, gdOf, gdv, picka, pickv, pickw, binv, bini, bins, binb, binp, binq, isSlT, bina, shp, eqCells, unv, convv, nilv, faddv, addp, idxav, idxp, load1, load1m, loadn, loadnm, loadv, hget, hset, hrep, hdel, slicev, slice3v, bnd, shift1, lenv, capv, IntKind.bits, extractv, fieldv, indexv, min2v, max2v, mkiv, tasv, tasz, cellsA, fillA, buildv, stC, oneC, rowMB, intsA, plN, appE, appZ, appC, appS, srcB, appNZ, appNC, VwL, srcC, srcZ, srcM, isBoolT, isPtrT, isSliceT, uOk, Value.oneCell', Nat.reducePow, Int.reducePow, Nat.reduceAdd, Nat.reduceMul, Nat.reduceSub, Nat.reduceLT, Nat.reduceLeDiff, Nat.reduceEqDiff, Nat.reduceBEq, Nat.reduceDiv, Nat.reduceMod, ↓reduceIte, reduceCtorEq, Int.reduceToNat, Int.reduceLT, Int.reduceLE, TFCnO, SeqQ, BlkQ, LoopQ, BodyQ, List.append_nil, FR.out])
    | (refine CallV.updM (c5) (pmz _) (Sm.out ?_))
    | (refine CallV.updM (c6) (pmz _) (Sm.out ?_))
    | ((first | refine ExF.up ?_ (c6) (Sm.out ?_) | refine ExG.up ?_ (fun _ => c6) (Sm.out ?_) | refine ExG.upJ ?_ (fun _ => c6) (Sm.out ?_) | refine ExG.upI ?_ (fun _ => c6) (Ob.out ?_) (Sm.out ?_)); focus (exact ⟨_, (pmz _)⟩))
    | (refine WP.seq fun K hK => ?_)
    | (refine WP.region (rvc_sound _ _ (Sm.out ?_)))
    | (refine WP.drawK rfl mixed (by decide +kernel) (Sm.out ?_))
    | (refine Ob.mk ?_; focus (first | assumption | omega | decide | trivial | (intro hob; simp only [hob, ZF]; done) | (intros; (repeat' refine And.intro ?_ ?_) <;> first | assumption | omega | trivial | decide) | (intros; simp only [ZE] at *; (repeat' refine And.intro ?_ ?_) <;> first | assumption | omega | trivial)))
    | (refine And.intro (Ob.out ?_) ?_)
    | (refine WP.block ?_)
    | (refine WP.cond rfl (fun hc => ?_) (fun hc => ?_) <;> (try simp only [ZC, reduceCtorEq, ZD] at hc) <;> (try (exact absurd hc (by decide))) <;> (try (exfalso; omega)))
    | ((first | refine WP.skip ?_ | refine WP.exit ?_); simp only [SeqQ, BlkQ, LoopQ, BodyQ, ↓reduceIte, Nat.reduceEqDiff, reduceCtorEq, look, true_and])
    | (refine WP.ret (Sm.out ?_))
    | (first | refine ExG.no (Sm.out ?_) | refine Or.inl (ExG.no (Sm.out ?_)) | refine Or.inl (And.intro (fun hg => absurd hg (by decide)) (ExG.no (Sm.out ?_))))
    | (refine Rt.mk ?_; refine And.intro ?_ ?_ <;> (intro hg; first | exact absurd hg (by decide) | refine Sm.out ?_))
    | (refine Nu.mk ?_; first | (fail_if_success (have := nb1)); intro nb1 | (fail_if_success (have := nb2)); intro nb2 | (fail_if_success (have := nb3)); intro nb3 | (fail_if_success (have := nb4)); intro nb4 | (fail_if_success (have := nb5)); intro nb5 | (fail_if_success (have := nb6)); intro nb6 | (fail_if_success (have := nb7)); intro nb7 | (fail_if_success (have := nb8)); intro nb8 | intro nbz)
    | (refine Fr.mk ?_; intro hfr; (first | (have hFRb : _ ≤ _ ∧ _ ≤ _ := And.intro hfr.1 hfr.2.1) | (have hFRb : _ ≤ _ := hfr.1) | skip); replace FR := Sm.mk (And.intro hfr FR.out); clear hfr; refine Sm.out ?_)
    | (refine Two.mk ?_ ?_)
    | (refine Cs.mk ?_; intro hcs; first | exact False.elim hcs | (exfalso; omega) | (refine Sm.out ?_))
    | go_step
    | omega
    | (simp only [maxLen_eq]; omega)
  (refine OutQ.all ?_ ?_; (focus (simp only [resv, ZK, look, loadv, loadn, loadnm, load1, load1m, hget, ↓reduceIte, Nat.reduceEqDiff, Nat.reduceAdd, Nat.reduceMul, Nat.reduceLeDiff, Nat.reduceLT, reduceCtorEq, TFCnO])); (try simp only [resv, resA, Fn, ZK, look, loadv, loadn, loadnm, load1, load1m, hget, ↓reduceIte, Nat.reduceEqDiff, Nat.reduceAdd, Nat.reduceMul, Nat.reduceLeDiff, Nat.reduceLT, reduceCtorEq, TFCnO]); (try simp [resA, Fn, look]))
end Go.Proofs.Ytbkojpkdphggeaa
namespace Go.Proofs.Ytbkojpkdphggeaa
open Go
set_option linter.unusedVariables false
set_option linter.unusedSimpArgs false
theorem TFCnP : (((((((type_of% tyc0) ∧ (type_of% tyc3)) ∧ ((type_of% zmb3) ∧ (type_of% tyc4))) ∧ (((type_of% zmb4) ∧ (type_of% tyc25)) ∧ ((type_of% mth25_31) ∧ ((type_of% mth25_35) ∧ (type_of% mth25_33))))) ∧ ((((type_of% mth25_32) ∧ (type_of% con25)) ∧ ((type_of% zmb25) ∧ (type_of% tyc28))) ∧ (((type_of% elt28) ∧ (type_of% mkz28)) ∧ ((type_of% mkc28) ∧ ((type_of% apT28) ∧ (type_of% elk28)))))) ∧ (((((type_of% zmb28) ∧ (type_of% tyc29)) ∧ ((type_of% elt29) ∧ (type_of% mkz29))) ∧ (((type_of% mkc29) ∧ (type_of% apT29)) ∧ ((type_of% elk29) ∧ ((type_of% zmb29) ∧ (type_of% tyc30))))) ∧ ((((type_of% zmb30) ∧ (type_of% tyc33)) ∧ ((type_of% zmb33) ∧ (type_of% tyc34))) ∧ (((type_of% tyc37) ∧ (type_of% foff37_0)) ∧ ((type_of% fpart37_0) ∧ ((type_of% foff37_1) ∧ (type_of% fpart37_1))))))) ∧ ((((((type_of% foff37_2) ∧ (type_of% fpart37_2)) ∧ ((type_of% zmb37) ∧ (type_of% bldT37))) ∧ (((type_of% tyc50) ∧ (type_of% foff50_0)) ∧ ((type_of% fpart50_0) ∧ ((type_of% foff50_1) ∧ (type_of% fpart50_1))))) ∧ ((((type_of% foff50_2) ∧ (type_of% fpart50_2)) ∧ ((type_of% foff50_3) ∧ (type_of% fpart50_3))) ∧ (((type_of% foff50_4) ∧ (type_of% fpart50_4)) ∧ ((type_of% fe50) ∧ ((type_of% zmb50) ∧ (type_of% bldT50)))))) ∧ (((((type_of% tyc53) ∧ (type_of% foff53_0)) ∧ ((type_of% fpart53_0) ∧ (type_of% foff53_1))) ∧ (((type_of% fpart53_1) ∧ (type_of% zmb53)) ∧ ((type_of% bldT53) ∧ ((type_of% Try.underlying0) ∧ (type_of% Try.underlying3))))) ∧ ((((type_of% Try.underlying4) ∧ (type_of% Try.underlying25)) ∧ ((type_of% Try.underlying28) ∧ ((type_of% Try.underlying29) ∧ (type_of% Try.underlying30)))) ∧ (((type_of% Try.underlying33) ∧ (type_of% Try.underlying34)) ∧ ((type_of% Try.underlying37) ∧ ((type_of% Try.underlying50) ∧ (type_of% Try.underlying53)))))))) :=
  ⟨⟨⟨⟨⟨⟨tyc0, tyc3⟩, ⟨zmb3, tyc4⟩⟩, ⟨⟨zmb4, tyc25⟩, ⟨mth25_31, ⟨mth25_35, mth25_33⟩⟩⟩⟩, ⟨⟨⟨mth25_32, con25⟩, ⟨zmb25, tyc28⟩⟩, ⟨⟨elt28, mkz28⟩, ⟨mkc28, ⟨apT28, elk28⟩⟩⟩⟩⟩, ⟨⟨⟨⟨zmb28, tyc29⟩, ⟨elt29, mkz29⟩⟩, ⟨⟨mkc29, apT29⟩, ⟨elk29, ⟨zmb29, tyc30⟩⟩⟩⟩, ⟨⟨⟨zmb30, tyc33⟩, ⟨zmb33, tyc34⟩⟩, ⟨⟨tyc37, foff37_0⟩, ⟨fpart37_0, ⟨foff37_1, fpart37_1⟩⟩⟩⟩⟩⟩, ⟨⟨⟨⟨⟨foff37_2, fpart37_2⟩, ⟨zmb37, bldT37⟩⟩, ⟨⟨tyc50, foff50_0⟩, ⟨fpart50_0, ⟨foff50_1, fpart50_1⟩⟩⟩⟩, ⟨⟨⟨foff50_2, fpart50_2⟩, ⟨foff50_3, fpart50_3⟩⟩, ⟨⟨foff50_4, fpart50_4⟩, ⟨fe50, ⟨zmb50, bldT50⟩⟩⟩⟩⟩, ⟨⟨⟨⟨tyc53, foff53_0⟩, ⟨fpart53_0, foff53_1⟩⟩, ⟨⟨fpart53_1, zmb53⟩, ⟨bldT53, ⟨Try.underlying0, Try.underlying3⟩⟩⟩⟩, ⟨⟨⟨Try.underlying4, Try.underlying25⟩, ⟨Try.underlying28, ⟨Try.underlying29, Try.underlying30⟩⟩⟩, ⟨⟨Try.underlying33, Try.underlying34⟩, ⟨Try.underlying37, ⟨Try.underlying50, Try.underlying53⟩⟩⟩⟩⟩⟩⟩
abbrev keyTy : Ty := .st [.str, .str, .bool, .int .u64, .bool]
abbrev msgTy : Ty := .st [.str, .bool, .sl keyTy]
theorem ky_rows : ∀ (rows : List (List AV)), (∀ r ∈ rows, Shp keyTy r) → ∃ L : List Ky, L.length = rows.length ∧ rows.flatten = kcs L
  | [], _ => ⟨[], rfl, rfl⟩
  | r :: rows, h => by
    obtain ⟨L, l1, l2⟩ := ky_rows rows fun x hx => h x (List.mem_cons_of_mem _ hx)
    have h0 := h r (List.mem_cons_self ..)
    simp only [Shp, ShpL] at h0
    obtain ⟨_, _, rfl, ⟨a, rfl, ha⟩, _, _, rfl, ⟨b, rfl, hb⟩, _, _, rfl, ⟨c, rfl⟩, _, _, rfl, ⟨d, rfl, hd⟩, _, _, rfl, ⟨e, rfl⟩, rfl⟩ := h0
    exact ⟨⟨a, b, c, d, e⟩ :: L, by simp [l1], by simp [l2, kcs]⟩
theorem msg_shp {xs : List AV} (h : Shp msgTy xs) : ∃ m : Mg, xs = [.lit (.string m.g), bv m.p, .sl m.ks.length (kcs m.ks)] := by
  simp only [Shp, ShpL] at h
  obtain ⟨_, _, rfl, ⟨a, rfl, ha⟩, _, _, rfl, ⟨b, rfl⟩, _, _, rfl, ⟨rows, rfl, hr⟩, rfl⟩ := h
  obtain ⟨L, l1, l2⟩ := ky_rows rows fun r hr' => by
    have := hr r hr'
    simpa only [Shp, ShpL] using this
  exact ⟨⟨a, b, L⟩, by simp [l1, l2]⟩
set_option maxHeartbeats 2000000 in
theorem nil_ct (i : Int) (m : Mg) : ACt Try.prog 5 [iv .i64 i, mv m] [] (fun r _ => r = bv true) := by
  have cA := awake_ct
  have c1 := del_nil i
  have c2 := post_nil m
  have c3 := lose_nil i
  have c4 := dbl_nil i
  have c5 := flying_nil
  have c6 := heard_nil
  have c7 := lost_nil
  unfold mv at c2 ⊢
  obtain ⟨n, hn⟩ : ∃ n, n = m.ks.length := ⟨_, rfl⟩
  rw [← hn] at c2 ⊢
  obtain ⟨C, hC⟩ : ∃ C, C = kcs m.ks := ⟨_, rfl⟩
  rw [← hC] at c2 ⊢
  clear hC
  obtain ⟨mg, mp, mks⟩ := m
  refine ACt.intro Try.func5 rfl (by kernel_rfl) (by simp [Try.ntmps5]) (fun cx => ?_)
  simp only [argE, Try.ntmps5, Try.results5]
  first | (have FRx := FR; clear FRx) | (have FR : Sm (¬ ((1 : Nat) = 0)) := Sm.mk Nat.one_ne_zero)
  repeat' first
    | (refine Sm.mk ?_; try simp -dsimp only [ZK, rvc, drawF, headN, pureH, stp, dvc, calleeOf, gcall, pev, eff, newB, okd, og, ogs, ogo, ogp, slv, bltv, opd, litv, strip, one, both, putE, St.put, look, gdOf, gdv, picka, pickv, pickw, binv, bini, bins, binb, binp, binq, isSlT, bina, shp, eqCells, unv, convv, nilv, faddv, addp, idxav, idxp, load1, load1m, loadn, loadnm, loadv, hget, hset, hrep, hdel, slicev, slice3v, bnd, shift1, lenv, capv, IntKind.bits, extractv, fieldv, indexv, min2v, max2v, mkiv, tasv, tasz, cellsA, fillA, buildv, stC, oneC, rowMB, intsA, plN, appE, appZ, appC, appS, srcB, appNZ, appNC, VwL, srcC, srcZ, srcM, isBoolT, isPtrT, isSliceT, uOk, Value.oneCell', Nat.reducePow, Int.reducePow, Nat.reduceAdd, Nat.reduceMul, Nat.reduceSub, Nat.reduceLT, Nat.reduceLeDiff, Nat.reduceEqDiff, Nat.reduceBEq, Nat.reduceDiv, Nat.reduceMod, ↓reduceIte, reduceCtorEq, Int.reduceToNat, Int.reduceLT, Int.reduceLE, TFCnP, SeqQ, BlkQ, LoopQ, BodyQ, FR.out])
    | (first | refine CallV.fn (cA) (Sm.out ?_) | refine ExF.mk (cA) (Sm.out ?_) | refine ExG.mk (fun _ => cA) (Sm.out ?_) | refine ExG.mkJ (fun _ => cA) (Sm.out ?_) | refine ExG.mkI (Ob.out ?_) (fun _ => cA) (Sm.out ?_))
    | (first | refine CallV.fn (c1) (Sm.out ?_) | refine ExF.mk (c1) (Sm.out ?_) | refine ExG.mk (fun _ => c1) (Sm.out ?_) | refine ExG.mkJ (fun _ => c1) (Sm.out ?_) | refine ExG.mkI (Ob.out ?_) (fun _ => c1) (Sm.out ?_))
    | (first | refine CallV.fn (c2) (Sm.out ?_) | refine ExF.mk (c2) (Sm.out ?_) | refine ExG.mk (fun _ => c2) (Sm.out ?_) | refine ExG.mkJ (fun _ => c2) (Sm.out ?_) | refine ExG.mkI (Ob.out ?_) (fun _ => c2) (Sm.out ?_))
    | (first | refine CallV.fn (c3) (Sm.out ?_) | refine ExF.mk (c3) (Sm.out ?_) | refine ExG.mk (fun _ => c3) (Sm.out ?_) | refine ExG.mkJ (fun _ => c3) (Sm.out ?_) | refine ExG.mkI (Ob.out ?_) (fun _ => c3) (Sm.out ?_))
    | (first | refine CallV.fn (c4) (Sm.out ?_) | refine ExF.mk (c4) (Sm.out ?_) | refine ExG.mk (fun _ => c4) (Sm.out ?_) | refine ExG.mkJ (fun _ => c4) (Sm.out ?_) | refine ExG.mkI (Ob.out ?_) (fun _ => c4) (Sm.out ?_))
    | (first | refine CallV.fn (c5) (Sm.out ?_) | refine ExF.mk (c5) (Sm.out ?_) | refine ExG.mk (fun _ => c5) (Sm.out ?_) | refine ExG.mkJ (fun _ => c5) (Sm.out ?_) | refine ExG.mkI (Ob.out ?_) (fun _ => c5) (Sm.out ?_))
    | (first | refine CallV.fn (c6) (Sm.out ?_) | refine ExF.mk (c6) (Sm.out ?_) | refine ExG.mk (fun _ => c6) (Sm.out ?_) | refine ExG.mkJ (fun _ => c6) (Sm.out ?_) | refine ExG.mkI (Ob.out ?_) (fun _ => c6) (Sm.out ?_))
    | (first | refine CallV.fn (c7) (Sm.out ?_) | refine ExF.mk (c7) (Sm.out ?_) | refine ExG.mk (fun _ => c7) (Sm.out ?_) | refine ExG.mkJ (fun _ => c7) (Sm.out ?_) | refine ExG.mkI (Ob.out ?_) (fun _ => c7) (Sm.out ?_))
    | (refine WP.seq fun K hK => ?_)
    | (refine WP.region (rvc_sound _ _ (Sm.out ?_)))
    | (refine WP.drawK rfl mixed (by decide +kernel) (Sm.out ?_))
    | (refine Ob.mk ?_; focus (first | assumption | omega | decide | trivial | (intro hob; simp only [hob, ZF]; done) | (intros; (repeat' refine And.intro ?_ ?_) <;> first | assumption | omega | trivial | decide) | (intros; simp only [ZE] at *; (repeat' refine And.intro ?_ ?_) <;> first | assumption | omega | trivial)))
    | (refine And.intro (Ob.out ?_) ?_)
    | (refine WP.block ?_)
    | (refine WP.cond rfl (fun hc => ?_) (fun hc => ?_) <;> (try simp only [ZC, reduceCtorEq, ZD] at hc) <;> (try (exact absurd hc (by decide))) <;> (try (exfalso; omega)))
    | ((first | refine WP.skip ?_ | refine WP.exit ?_); simp only [SeqQ, BlkQ, LoopQ, BodyQ, ↓reduceIte, Nat.reduceEqDiff, reduceCtorEq, look, true_and])
    | (refine WP.ret (Sm.out ?_))
    | (first | refine ExG.no (Sm.out ?_) | refine Or.inl (ExG.no (Sm.out ?_)) | refine Or.inl (And.intro (fun hg => absurd hg (by decide)) (ExG.no (Sm.out ?_))))
    | (refine Rt.mk ?_; refine And.intro ?_ ?_ <;> (intro hg; first | exact absurd hg (by decide) | refine Sm.out ?_))
    | (refine Nu.mk ?_; first | (fail_if_success (have := nb1)); intro nb1 | (fail_if_success (have := nb2)); intro nb2 | (fail_if_success (have := nb3)); intro nb3 | (fail_if_success (have := nb4)); intro nb4 | intro nbz)
    | (refine Fr.mk ?_; intro hfr; (first | (have hFRb : _ ≤ _ ∧ _ ≤ _ := And.intro hfr.1 hfr.2.1) | (have hFRb : _ ≤ _ := hfr.1) | skip); replace FR := Sm.mk (And.intro hfr FR.out); clear hfr; refine Sm.out ?_)
    | (refine Two.mk ?_ ?_)
    | (refine Cs.mk ?_; intro hcs; first | exact False.elim hcs | (exfalso; omega) | (refine Sm.out ?_))
    | go_step
    | omega
    | (simp only [maxLen_eq]; omega)
  (refine OutQ.all ?_ ?_; (focus (simp only [resv, ZK, look, loadv, loadn, loadnm, load1, load1m, hget, ↓reduceIte, Nat.reduceEqDiff, Nat.reduceAdd, Nat.reduceMul, Nat.reduceLeDiff, Nat.reduceLT, reduceCtorEq, TFCnP])); (try simp only [resv, resA, Fn, ZK, look, loadv, loadn, loadnm, load1, load1m, hget, ↓reduceIte, Nat.reduceEqDiff, Nat.reduceAdd, Nat.reduceMul, Nat.reduceLeDiff, Nat.reduceLT, reduceCtorEq, TFCnP]); (try simp [resA, Fn, look]))
theorem nil_law {xs : List AV} (i : Int) (hx : Shp msgTy xs) : ACt Try.prog 5 [iv .i64 i, .agg xs] [] (fun r _ => r = bv true) := by
  obtain ⟨m, e⟩ := msg_shp hx
  rw [e]
  exact nil_ct i m
end Go.Proofs.Ytbkojpkdphggeaa
