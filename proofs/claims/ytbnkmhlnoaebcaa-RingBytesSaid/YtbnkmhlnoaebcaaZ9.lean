/-
  The walks and the laws that the statement leans on, part 9.
-/
import Derived.Test.YtbnkmhlnoaebcaaZ8
namespace Go.Proofs.Ytbnkmhlnoaebcaa
open Go
set_option linter.unusedVariables false
set_option linter.unusedSimpArgs false
theorem TFRgR : ((((((type_of% tyc0) ∧ (type_of% tyc2)) ∧ ((type_of% zmb2) ∧ ((type_of% tyc4) ∧ (type_of% zmb4)))) ∧ (((type_of% tyc26) ∧ ((type_of% mth26_30) ∧ (type_of% mth26_39))) ∧ ((type_of% mth26_38) ∧ ((type_of% con26) ∧ (type_of% zmb26))))) ∧ ((((type_of% tyc32) ∧ ((type_of% elt32) ∧ (type_of% mkz32))) ∧ ((type_of% mkc32) ∧ ((type_of% apT32) ∧ (type_of% elk32)))) ∧ (((type_of% zmb32) ∧ ((type_of% tyc35) ∧ (type_of% zmb35))) ∧ ((type_of% tyc38) ∧ ((type_of% foff38_0) ∧ (type_of% fpart38_0)))))) ∧ (((((type_of% foff38_1) ∧ ((type_of% fpart38_1) ∧ (type_of% foff38_2))) ∧ ((type_of% fpart38_2) ∧ ((type_of% foff38_3) ∧ (type_of% fpart38_3)))) ∧ (((type_of% zmb38) ∧ ((type_of% bldT38) ∧ (type_of% tyc43))) ∧ ((type_of% foff43_0) ∧ ((type_of% fpart43_0) ∧ (type_of% foff43_1))))) ∧ ((((type_of% fpart43_1) ∧ ((type_of% fe43) ∧ (type_of% zmb43))) ∧ ((type_of% bldT43) ∧ ((type_of% Try.underlying0) ∧ (type_of% Try.underlying2)))) ∧ (((type_of% Try.underlying4) ∧ ((type_of% Try.underlying26) ∧ (type_of% Try.underlying32))) ∧ ((type_of% Try.underlying35) ∧ ((type_of% Try.underlying38) ∧ (type_of% Try.underlying43))))))) :=
  ⟨⟨⟨⟨⟨tyc0, tyc2⟩, ⟨zmb2, ⟨tyc4, zmb4⟩⟩⟩, ⟨⟨tyc26, ⟨mth26_30, mth26_39⟩⟩, ⟨mth26_38, ⟨con26, zmb26⟩⟩⟩⟩, ⟨⟨⟨tyc32, ⟨elt32, mkz32⟩⟩, ⟨mkc32, ⟨apT32, elk32⟩⟩⟩, ⟨⟨zmb32, ⟨tyc35, zmb35⟩⟩, ⟨tyc38, ⟨foff38_0, fpart38_0⟩⟩⟩⟩⟩, ⟨⟨⟨⟨foff38_1, ⟨fpart38_1, foff38_2⟩⟩, ⟨fpart38_2, ⟨foff38_3, fpart38_3⟩⟩⟩, ⟨⟨zmb38, ⟨bldT38, tyc43⟩⟩, ⟨foff43_0, ⟨fpart43_0, foff43_1⟩⟩⟩⟩, ⟨⟨⟨fpart43_1, ⟨fe43, zmb43⟩⟩, ⟨bldT43, ⟨Try.underlying0, Try.underlying2⟩⟩⟩, ⟨⟨Try.underlying4, ⟨Try.underlying26, Try.underlying32⟩⟩, ⟨Try.underlying35, ⟨Try.underlying38, Try.underlying43⟩⟩⟩⟩⟩⟩
/-- what is read of both -/
theorem sum_d (mb W G k w n : Nat) (s : RS) (h : Inv w k n s) (hn : n ≤ 1000) (hg : goP W G) (hgo : GoOk W G k w) (hmb : ∀ p ∈ evB s.E s.o, p.1 ≠ mb) :
    ACt Try.prog 18 [pt mb 0] ((mb, mM W G s.now (evL s.E s.o)) :: evB s.E s.o) (fun r F' => r = cnt (sG (winP s.now w k) s.E) (sT (winP s.now w k) s.E) ∧ F' = (mb, mM W G s.now (evL s.E s.o)) :: evB s.E s.o) := by
  have hs := h.sum
  have h0 := h.now
  have hl := h.len
  have hgs : sG (winP s.now w k) s.E ≤ sT (winP s.now w k) s.E := sG_le_sT h.gt
  exact look_m (rs := []) (refSum_ct W G k w s.now s.E hg hgo h0 (fun e he => Nat.le_trans (h.at_ e he) h0) (by omega) (Nat.lt_of_le_of_lt (Nat.le_trans hgs hs) (by omega)) (Nat.lt_of_le_of_lt hs (by omega))) rfl h.ok hmb
theorem list_d (mb W G k w n : Nat) (s : RS) (h : Inv w k n s) (hn : n ≤ 1000) (hg : goP W G) (hgo : GoOk W G k w) (hmb : ∀ p ∈ evB s.E s.o, p.1 ≠ mb) :
    ACt Try.prog 32 [pt mb 0] ((mb, mM W G s.now (evL s.E s.o)) :: evB s.E s.o) (fun r F' => r = .sl k (lC k (bkA (slG (s.now / w) w k s.E) k (s.now / w)) (bkA (slT (s.now / w) w k s.E) k (s.now / w))) ∧ F' = (mb, mM W G s.now (evL s.E s.o)) :: evB s.E s.o) := by
  have hs := h.sum
  have h0 := h.now
  have hl := h.len
  have hk1 := hgo.k1
  have hgs : sG (winP s.now w k) s.E ≤ sT (winP s.now w k) s.E := sG_le_sT h.gt
  have hE : ∀ e ∈ s.E, e.at_ / w ≤ s.now / w := fun e he => Nat.div_le_div_right (h.at_ e he)
  have rG := rowG (k := k) hk1 hE
  have rT := rowT (k := k) hk1 hE
  have bT : ∀ i, i < k → sT (pB (((s.now / w : Nat) : Int) - k + 1 + i) w) s.E ≤ sT (winP s.now w k) s.E := fun i hi => by
    refine sT_mono fun e he hp => ?_
    unfold pB at hp
    unfold winP
    simp only [Bool.and_eq_true, decide_eq_true_eq] at hp ⊢
    omega
  have bG : ∀ i, i < k → sG (pB (((s.now / w : Nat) : Int) - k + 1 + i) w) s.E ≤ sT (winP s.now w k) s.E := fun i hi => Nat.le_trans (sG_le_sT h.gt) (bT i hi)
  have cK : ∀ i : Nat, i < k → ACt Try.prog 47 [pt mb 0, iv .i64 (((s.now / w : Nat) : Int) - k + 1 + i)] ((mb, mM W G s.now (evL s.E s.o)) :: evB s.E s.o) (fun r F' => r = cnt (bkA (slG (s.now / w) w k s.E) k (s.now / w) i) (bkA (slT (s.now / w) w k s.E) k (s.now / w) i) ∧ F' = (mb, mM W G s.now (evL s.E s.o)) :: evB s.E s.o) := fun i hi => by
    have c := refBucket_ct W G k w s.now (((s.now / w : Nat) : Int) - k + 1 + i) s.E hg hgo (fun e he => Nat.le_trans (h.at_ e he) h0) (by omega) (Nat.lt_of_le_of_lt (Nat.le_trans (bG i hi) hs) (by omega)) (Nat.lt_of_le_of_lt (Nat.le_trans (bT i hi) hs) (by omega))
    rw [← rG i hi, ← rT i hi] at c
    exact look_m (rs := [_]) c rfl h.ok hmb
  obtain ⟨o, ho⟩ : ∃ o, o = s.o := ⟨_, rfl⟩
  rw [← ho] at cK hmb ⊢
  cases o with
  | none => exact refList_n mb W G k w s.now _ _ _ _ hg hgo rfl h0 cK
  | some p =>
    have hb := hmb (p.1, .cells (evC s.E) (p.2 * 3) 70) (by simp [evB])
    exact refList_s mb p.1 W G k w s.now _ _ _ _ _ hg hgo rfl h0 ⟨Ne.symm hb, hb⟩ cK
theorem pmz {α : Type} (H : List α) : H.Perm (H ++ []) := by rw [List.append_nil]
theorem pmy {α : Type} (x y z : α) (T : List α) : ([x, y, z] ++ T).Perm ((z :: T) ++ [x, y]) :=
  List.perm_append_comm (l₁ := [x, y])
set_option maxRecDepth 8000 in
set_option maxHeartbeats 2000000 in
theorem same_ct (rb lb mb W G k w n : Nat) (s : RS) (h : Inv w k n s) (hn : n ≤ 1000) (hg : goP W G) (hgo : GoOk W G k w) (hmb : ∀ p ∈ evB s.E s.o, p.1 ≠ mb) (hne : (rb ≠ lb ∧ lb ≠ rb) ∧ (rb ≠ mb ∧ mb ≠ rb) ∧ lb ≠ mb ∧ mb ≠ lb) :
    ACt Try.prog 15 [pt rb 0, pt mb 0] (blk rb lb mb W G w k s) (fun r F' => r = bv true ∧ F' = blk rb lb mb W G w k s) := by
  refine ACt.intro Try.func15 rfl (by kernel_rfl) (by simp [Try.ntmps15]) (fun cx => ?_)
  simp only [argE, Try.ntmps15, Try.results15]
  have hk1 := hgo.k1
  have hk2 := hgo.k2
  have h0 := h.now
  have hq : s.now / w ≤ s.now := Nat.div_le_self _ _
  have c1 := sum_d mb W G k w n s h hn hg hgo hmb
  have c2 := list_d mb W G k w n s h hn hg hgo hmb
  have c3 := sum_ct rb lb w k (s.now / w) s.now (sG (winP s.now w k) s.E) (sT (winP s.now w k) s.E)
  have c4 := now_ct rb lb w k (s.now / w) s.now (sG (winP s.now w k) s.E) (sT (winP s.now w k) s.E)
  have c5 := Buckets_row rb lb w k (s.now / w) s.now (sG (winP s.now w k) s.E) (sT (winP s.now w k) s.E) (slG (s.now / w) w k s.E) (slT (s.now / w) w k s.E) hne.1 hk1 hk2 (by omega)
  have c6 := Same_ct k (bkA (slG (s.now / w) w k s.E) k (s.now / w)) (bkA (slT (s.now / w) w k s.E) k (s.now / w)) (by omega)
  unfold blk
  simp only [R1, L1] at *
  obtain ⟨C, hC⟩ : ∃ C, C = lC k (bkA (slG (s.now / w) w k s.E) k (s.now / w)) (bkA (slT (s.now / w) w k s.E) k (s.now / w)) := ⟨_, rfl⟩
  rw [← hC] at c2 c5 c6
  obtain ⟨LB, hLB⟩ : ∃ LB, LB = lbM k (slG (s.now / w) w k s.E) (slT (s.now / w) w k s.E) := ⟨_, rfl⟩
  rw [← hLB] at c5 ⊢
  obtain ⟨A, hA⟩ : ∃ A, A = sG (winP s.now w k) s.E := ⟨_, rfl⟩
  obtain ⟨B, hB⟩ : ∃ B, B = sT (winP s.now w k) s.E := ⟨_, rfl⟩
  obtain ⟨ne, hnn⟩ : ∃ ne, ne = s.now / w := ⟨_, rfl⟩
  rw [← hA, ← hB] at c1
  rw [← hA, ← hB, ← hnn] at c3 c4 c5 ⊢
  obtain ⟨LV, hLV⟩ : ∃ LV, LV = evL s.E s.o := ⟨_, rfl⟩
  obtain ⟨EB, hEB⟩ : ∃ EB, EB = evB s.E s.o := ⟨_, rfl⟩
  rw [← hLV, ← hEB] at c1 c2 ⊢
  obtain ⟨now, hnow⟩ : ∃ now, now = s.now := ⟨_, rfl⟩
  rw [← hnow] at c1 c2 c3 c4 c5 ⊢
  clear hC hLB hA hB hnn hLV hEB hnow hmb h hq h0
  simp only [List.cons_append, List.nil_append]
  have z1 : ((now : Int) == (now : Int)) = true := beq_self_eq_true _
  have z2 : ((A : Int) == (A : Int)) = true := beq_self_eq_true _
  have z3 : ((B : Int) == (B : Int)) = true := beq_self_eq_true _
  first | (have FRx := FR; clear FRx) | (have FR : ¬ ((1 : Nat) = 0) := Nat.one_ne_zero)
  repeat' first
    | (refine Sm.mk ?_; try simp -dsimp only [ZK, rvc, drawF, headN, pureH, stp, dvc, calleeOf, gcall, pev, eff, newB, okd, og, ogs, ogo, ogp, slv, bltv, opd, litv, strip, one, both, putE, St.put, look, gdOf, gdv, picka, pickv, pickw, binv, bini, bins, binb, binp, bina, shp, eqCells, unv, convv, nilv, faddv, addp, idxav, idxp, load1, load1m, loadn, loadnm, loadv, hget, hset, hrep, hdel, slicev, bnd, shift1, lenv, IntKind.bits, extractv, fieldv, indexv, min2v, max2v, mkiv, cellsA, fillA, buildv, stC, oneC, rowMB, intsA, plN, appE, appZ, appC, appNZ, appNC, VwL, srcC, srcZ, srcM, isBoolT, isPtrT, isSliceT, uOk, Value.oneCell', Nat.reducePow, Int.reducePow, Nat.reduceAdd, Nat.reduceMul, Nat.reduceSub, Nat.reduceLT, Nat.reduceLeDiff, Nat.reduceEqDiff, Nat.reduceBEq, Nat.reduceDiv, Nat.reduceMod, ↓reduceIte, reduceCtorEq, Int.reduceToNat, Int.reduceLT, Int.reduceLE, TFRgR, SeqQ, BlkQ, LoopQ, BodyQ, z1, z2, z3, fe43, hne, FR])
    | (refine CallV.updM (c3) (perm1 (by simp only [hget, hdel, ↓reduceIte, FR, z1, z2, z3, fe43, hne]; first | done | rfl)) (Sm.out ?_))
    | ((first | refine ExF.up ?_ (c3) (Sm.out ?_) | refine ExG.up ?_ (fun _ => c3) (Sm.out ?_) | refine ExG.upJ ?_ (fun _ => c3) (Sm.out ?_) | refine ExG.upI ?_ (fun _ => c3) (Ob.out ?_) (Sm.out ?_)); focus (exact ⟨_, (perm1 (by simp only [hget, hdel, ↓reduceIte, FR, z1, z2, z3, fe43, hne]; first | done | rfl))⟩))
    | (refine CallV.updM (c1) (pmy _ _ _ _) (Sm.out ?_))
    | ((first | refine ExF.up ?_ (c1) (Sm.out ?_) | refine ExG.up ?_ (fun _ => c1) (Sm.out ?_) | refine ExG.upJ ?_ (fun _ => c1) (Sm.out ?_) | refine ExG.upI ?_ (fun _ => c1) (Ob.out ?_) (Sm.out ?_)); focus (exact ⟨_, (pmy _ _ _ _)⟩))
    | (refine CallV.updM (c4) (perm1 (by simp only [hget, hdel, ↓reduceIte, FR, z1, z2, z3, fe43, hne]; first | done | rfl)) (Sm.out ?_))
    | ((first | refine ExF.up ?_ (c4) (Sm.out ?_) | refine ExG.up ?_ (fun _ => c4) (Sm.out ?_) | refine ExG.upJ ?_ (fun _ => c4) (Sm.out ?_) | refine ExG.upI ?_ (fun _ => c4) (Ob.out ?_) (Sm.out ?_)); focus (exact ⟨_, (perm1 (by simp only [hget, hdel, ↓reduceIte, FR, z1, z2, z3, fe43, hne]; first | done | rfl))⟩))
    | (refine CallV.updM (c5) (perm2 (by simp only [hget, hdel, ↓reduceIte, FR, z1, z2, z3, fe43, hne]; first | done | rfl) (by simp only [hget, hdel, ↓reduceIte, FR, z1, z2, z3, fe43, hne]; first | done | rfl)) (Sm.out ?_))
    | ((first | refine ExF.up ?_ (c5) (Sm.out ?_) | refine ExG.up ?_ (fun _ => c5) (Sm.out ?_) | refine ExG.upJ ?_ (fun _ => c5) (Sm.out ?_) | refine ExG.upI ?_ (fun _ => c5) (Ob.out ?_) (Sm.out ?_)); focus (exact ⟨_, (perm2 (by simp only [hget, hdel, ↓reduceIte, FR, z1, z2, z3, fe43, hne]; first | done | rfl) (by simp only [hget, hdel, ↓reduceIte, FR, z1, z2, z3, fe43, hne]; first | done | rfl))⟩))
    | (refine CallV.updM (c2) (pmy _ _ _ _) (Sm.out ?_))
    | ((first | refine ExF.up ?_ (c2) (Sm.out ?_) | refine ExG.up ?_ (fun _ => c2) (Sm.out ?_) | refine ExG.upJ ?_ (fun _ => c2) (Sm.out ?_) | refine ExG.upI ?_ (fun _ => c2) (Ob.out ?_) (Sm.out ?_)); focus (exact ⟨_, (pmy _ _ _ _)⟩))
    | (first | refine CallV.fn (c6) (Sm.out ?_) | refine ExF.mk (c6) (Sm.out ?_) | refine ExG.mk (fun _ => c6) (Sm.out ?_) | refine ExG.mkJ (fun _ => c6) (Sm.out ?_) | refine ExG.mkI (Ob.out ?_) (fun _ => c6) (Sm.out ?_))
    | (refine WP.seq fun K hK => ?_)
    | (refine WP.region (rvc_sound _ _ (Sm.out ?_)))
    | (refine WP.drawK rfl mixed (by decide +kernel) (Sm.out ?_))
    | (refine Ob.mk ?_; focus (first | assumption | omega | decide | trivial | (intro hob; simp only [hob, ZF]; done) | (intros; (repeat' refine And.intro ?_ ?_) <;> first | assumption | omega | trivial | decide) | (intros; simp only [ZE] at *; (repeat' refine And.intro ?_ ?_) <;> first | assumption | omega | trivial)))
    | (refine And.intro (Ob.out ?_) ?_)
    | (refine WP.block ?_)
    | (refine WP.cond rfl (fun hc => ?_) (fun hc => ?_) <;> (try simp only [ZC, reduceCtorEq, ZD] at hc) <;> (try (exact absurd hc (by decide))) <;> (try (exfalso; omega)))
    | ((first | refine WP.skip ?_ | refine WP.exit ?_); simp only [SeqQ, BlkQ, LoopQ, BodyQ, ↓reduceIte, Nat.reduceEqDiff, reduceCtorEq, look, true_and])
    | (refine WP.ret (Sm.out ?_))
    | (first | refine ExG.no (Sm.out ?_) | refine Or.inl (ExG.no (Sm.out ?_)) | refine Or.inl (And.intro (fun hg => absurd hg (by decide)) (ExG.no (Sm.out ?_))))
    | (refine Rt.mk ?_; refine And.intro ?_ ?_ <;> (intro hg; first | exact absurd hg (by decide) | refine Sm.out ?_))
    | (refine Nu.mk ?_; first | (fail_if_success (have := nb1)); intro nb1 | (fail_if_success (have := nb2)); intro nb2 | (fail_if_success (have := nb3)); intro nb3 | intro nbz)
    | (refine Fr.mk ?_; intro hfr; replace FR := And.intro hfr FR; clear hfr; refine Sm.out ?_)
    | (refine Two.mk ?_ ?_)
    | (refine Cs.mk ?_; intro hcs; first | exact False.elim hcs | (exfalso; omega) | (refine Sm.out ?_))
    | go_step
    | omega
    | (simp only [maxLen_eq]; omega)
  (refine OutQ.drop _ _ (pmz _) (by simp only [resv, ZK, look, loadv, loadn, loadnm, load1, load1m, hget, ↓reduceIte, Nat.reduceEqDiff, Nat.reduceAdd, Nat.reduceMul, Nat.reduceLeDiff, Nat.reduceLT, reduceCtorEq, TFRgR, FR]) ⟨(by simp only [resv, resA, ZK, look, loadv, loadn, loadnm, load1, load1m, hget, ↓reduceIte, Nat.reduceEqDiff, Nat.reduceAdd, Nat.reduceMul, Nat.reduceLeDiff, Nat.reduceLT, reduceCtorEq, TFRgR, FR]; first | done | rfl), rfl⟩)
end Go.Proofs.Ytbnkmhlnoaebcaa
namespace Go.Proofs.Ytbnkmhlnoaebcaa
open Go
set_option linter.unusedVariables false
set_option linter.unusedSimpArgs false
theorem ACt.nd {f : FuncId} {args : List AV} {F : Hp} {p : AV → Hp → Prop} (h : ACt Try.prog f args F p) : ACt Try.prog f args F (fun r F' => p r F' ∧ (F'.map (·.1)).Nodup) :=
  fun cx vs h1 h2 h3 h4 => (h cx vs h1 h2 h3 h4).mono fun e w' ⟨v, r, F', a, b, c, d⟩ => ⟨v, r, F', a, ⟨b, c.nodup⟩, c, d⟩
abbrev JS (w k n mb : Nat) : Type := {s : RS // Inv w k n s ∧ ∀ p ∈ evB s.E s.o, p.1 ≠ mb}
theorem does_nd (rb lb mb W G k w n : Nat) (kind at_ : Int) (gd tt : Nat) (s : RS) (h : Inv w k n s) (hn : n < 1000) (hg : goP W G) (hgo : GoOk W G k w)
    (hmb : ∀ p ∈ evB s.E s.o, p.1 ≠ mb) (hne : (rb ≠ lb ∧ lb ≠ rb) ∧ (rb ≠ mb ∧ mb ≠ rb) ∧ lb ≠ mb ∧ mb ≠ lb) (ht : tt < 18446744073709551616) :
    ACt Try.prog 16 [pt rb 0, pt mb 0, actA kind at_ gd tt] (blk rb lb mb W G w k s) (fun r F' => ∃ q : JS w k (n + 1) mb, r = bv true ∧ F' = blk rb lb mb W G w k q.1) := by
  refine (does_ct rb lb mb W G k w n kind at_ gd tt s h hn hg hgo hmb hne ht).nd.mono ?_
  rintro r F' ⟨⟨q, e1, e2⟩, e3⟩
  refine ⟨⟨q.1, q.2, fun p hp he => ?_⟩, e1, e2⟩
  rw [e2] at e3
  unfold blk at e3
  simp only [List.cons_append, List.nil_append, List.map_cons, List.nodup_cons] at e3
  exact e3.2.2.1 (List.mem_map.2 ⟨p, hp, he⟩)
structure Act where
  kd : Int
  at_ : Int
  gd : Nat
  tt : Nat
def acC : List Act → List AV
  | [] => []
  | e :: r => iv .i64 e.kd :: iv .i64 e.at_ :: nu e.gd :: nu e.tt :: acC r
theorem acC_len : ∀ l, (acC l).length = l.length * 4
  | [] => rfl
  | e :: r => by simp only [acC, List.length_cons, acC_len r]; omega
theorem acC_drop : ∀ (l : List Act) (i : Nat) (h : i < l.length), (acC l).drop (i * 4) = iv .i64 l[i].kd :: iv .i64 l[i].at_ :: nu l[i].gd :: nu l[i].tt :: acC (l.drop (i + 1))
  | e :: r, 0, _ => rfl
  | e :: r, i + 1, h => by
    have := acC_drop r i (by simpa using h)
    rw [show (i + 1) * 4 = i * 4 + 4 by omega]
    simpa [acC] using this
theorem pmr {α : Type} (x y z : α) : [z, x, y].Perm ([x, y, z] ++ []) := (List.Perm.swap x z _).trans (.cons x (List.Perm.swap y z _))
theorem Inv.zero (w k : Nat) : Inv w k 0 ⟨[], 0, none⟩ := ⟨by simp, fun e he => (by cases he), fun e he => (by cases he), by simp, by simp [sT], rfl⟩
end Go.Proofs.Ytbnkmhlnoaebcaa
namespace Go.Proofs.Ytbnkmhlnoaebcaa
open Go
abbrev acTy : Ty := .st [.int .i64, .int .i64, .st [.int .u64, .int .u64]]
theorem ac_rows : ∀ (rows : List (List AV)), (∀ r ∈ rows, Shp acTy r) → ∃ L : List Act, L.length = rows.length ∧ rows.flatten = acC L ∧ ∀ e ∈ L, e.tt < 18446744073709551616
  | [], _ => ⟨[], rfl, rfl, fun p hp => by cases hp⟩
  | r :: rows, h => by
    obtain ⟨L, l1, l2, l3⟩ := ac_rows rows fun x hx => h x (List.mem_cons_of_mem _ hx)
    have h0 := h r (List.mem_cons_self ..)
    simp only [Shp, ShpL] at h0
    obtain ⟨_, _, rfl, ⟨a, rfl, ha⟩, _, _, rfl, ⟨b, rfl, hb⟩, _, _, rfl, ⟨_, _, rfl, ⟨c, rfl, hc⟩, _, _, rfl, ⟨d, rfl, hd⟩, rfl⟩, rfl⟩ := h0
    have hc := wf_u64 hc
    have hd := wf_u64 hd
    obtain ⟨c, rfl⟩ := Int.eq_ofNat_of_zero_le hc.1
    obtain ⟨d, rfl⟩ := Int.eq_ofNat_of_zero_le hd.1
    refine ⟨⟨a, b, c, d⟩ :: L, by simp [l1], by simp [l2, acC], fun e he => ?_⟩
    rcases List.mem_cons.1 he with rfl | he
    · simp only; omega
    · exact l3 e he
end Go.Proofs.Ytbnkmhlnoaebcaa
namespace Go.Proofs.Ytbnkmhlnoaebcaa.Wi
open Go
def lenN (q : Nat) : Nat := if q = 0 then 0 else Nat.log2 q + 1
theorem lenN_le {q d : Nat} : lenN q ≤ d ↔ q < 2 ^ d := by
  unfold lenN
  by_cases h : q = 0
  · subst h; simp [Nat.two_pow_pos]
  · rw [if_neg h, ← Nat.log2_lt h]; omega
theorem wrap_u64_nat {n : Nat} (h : n < 18446744073709551616) : IntKind.u64.wrap (n : Int) = (n : Int) := wrap_u64 (by omega) (by omega)
theorem wrap_i64_nat {n : Nat} (h : n < 9223372036854775808) : IntKind.i64.wrap (n : Int) = (n : Int) := wrap_i64 (by omega) (by omega)
theorem ofInt_nat (n : Nat) : BitVec.ofInt 64 (n : Int) = BitVec.ofNat 64 n := by
  apply BitVec.eq_of_toNat_eq; simp
end Go.Proofs.Ytbnkmhlnoaebcaa.Wi
namespace Go.Proofs.Ytbnkmhlnoaebcaa.Wi
open Go
set_option linter.unusedVariables false
set_option linter.unusedSimpArgs false
theorem TFWiA : (((((type_of% tyc3) ∧ (type_of% zmb3)) ∧ ((type_of% tyc4) ∧ (type_of% zmb4))) ∧ (((type_of% tyc5) ∧ (type_of% zmb5)) ∧ ((type_of% tyc9) ∧ ((type_of% zmb9) ∧ (type_of% tyc41))))) ∧ ((((type_of% zmb41) ∧ (type_of% tyc98)) ∧ ((type_of% zmb98) ∧ (type_of% Try.underlying3))) ∧ (((type_of% Try.underlying4) ∧ (type_of% Try.underlying5)) ∧ ((type_of% Try.underlying9) ∧ ((type_of% Try.underlying41) ∧ (type_of% Try.underlying98)))))) :=
  ⟨⟨⟨⟨tyc3, zmb3⟩, ⟨tyc4, zmb4⟩⟩, ⟨⟨tyc5, zmb5⟩, ⟨tyc9, ⟨zmb9, tyc41⟩⟩⟩⟩, ⟨⟨⟨zmb41, tyc98⟩, ⟨zmb98, Try.underlying3⟩⟩, ⟨⟨Try.underlying4, Try.underlying5⟩, ⟨Try.underlying9, ⟨Try.underlying41, Try.underlying98⟩⟩⟩⟩⟩
abbrev nu (n : Nat) : AV := iv .u64 (n : Int)
theorem lenN_shift {k x : Nat} (h : 2 ^ k ≤ x) : lenN x = k + lenN (x / 2 ^ k) := by
  have hx : 0 < x := Nat.lt_of_lt_of_le (Nat.two_pow_pos k) h
  have a : ∀ d, lenN x ≤ k + d ↔ lenN (x / 2 ^ k) ≤ d := fun d => by
    rw [lenN_le, lenN_le, Nat.div_lt_iff_lt_mul (Nat.two_pow_pos k), Nat.pow_add, Nat.mul_comm]
  have b : k ≤ lenN x := by
    apply Classical.byContradiction; intro hk
    have := lenN_le.1 (show lenN x ≤ k - 1 + 0 by omega)
    have h2 : 2 ^ (k - 1 + 0) ≤ 2 ^ k := Nat.pow_le_pow_right (by omega) (by omega)
    omega
  have h1 := (a (lenN (x / 2 ^ k))).2 (Nat.le_refl _)
  have h2 := (a (lenN x - k)).1 (by omega)
  omega
def tab8 : ByteArray := ⟨List.toArray (List.append (List.append [0, 1, 2, 2, 3, 3, 3, 3, 4, 4, 4, 4, 4, 4, 4, 4, 5, 5, 5, 5, 5, 5, 5, 5, 5, 5, 5, 5, 5, 5, 5, 5, 6, 6, 6, 6, 6, 6, 6, 6, 6, 6, 6, 6, 6, 6, 6, 6, 6, 6, 6, 6, 6, 6, 6, 6, 6, 6, 6, 6, 6, 6, 6, 6] [7, 7, 7, 7, 7, 7, 7, 7, 7, 7, 7, 7, 7, 7, 7, 7, 7, 7, 7, 7, 7, 7, 7, 7, 7, 7, 7, 7, 7, 7, 7, 7, 7, 7, 7, 7, 7, 7, 7, 7, 7, 7, 7, 7, 7, 7, 7, 7, 7, 7, 7, 7, 7, 7, 7, 7, 7, 7, 7, 7, 7, 7, 7, 7]) (List.append [8, 8, 8, 8, 8, 8, 8, 8, 8, 8, 8, 8, 8, 8, 8, 8, 8, 8, 8, 8, 8, 8, 8, 8, 8, 8, 8, 8, 8, 8, 8, 8, 8, 8, 8, 8, 8, 8, 8, 8, 8, 8, 8, 8, 8, 8, 8, 8, 8, 8, 8, 8, 8, 8, 8, 8, 8, 8, 8, 8, 8, 8, 8, 8] [8, 8, 8, 8, 8, 8, 8, 8, 8, 8, 8, 8, 8, 8, 8, 8, 8, 8, 8, 8, 8, 8, 8, 8, 8, 8, 8, 8, 8, 8, 8, 8, 8, 8, 8, 8, 8, 8, 8, 8, 8, 8, 8, 8, 8, 8, 8, 8, 8, 8, 8, 8, 8, 8, 8, 8, 8, 8, 8, 8, 8, 8, 8, 8]))⟩
theorem tab8_eq : (⟨List.toArray (List.append (List.append [0, 1, 2, 2, 3, 3, 3, 3, 4, 4, 4, 4, 4, 4, 4, 4, 5, 5, 5, 5, 5, 5, 5, 5, 5, 5, 5, 5, 5, 5, 5, 5, 6, 6, 6, 6, 6, 6, 6, 6, 6, 6, 6, 6, 6, 6, 6, 6, 6, 6, 6, 6, 6, 6, 6, 6, 6, 6, 6, 6, 6, 6, 6, 6] [7, 7, 7, 7, 7, 7, 7, 7, 7, 7, 7, 7, 7, 7, 7, 7, 7, 7, 7, 7, 7, 7, 7, 7, 7, 7, 7, 7, 7, 7, 7, 7, 7, 7, 7, 7, 7, 7, 7, 7, 7, 7, 7, 7, 7, 7, 7, 7, 7, 7, 7, 7, 7, 7, 7, 7, 7, 7, 7, 7, 7, 7, 7, 7]) (List.append [8, 8, 8, 8, 8, 8, 8, 8, 8, 8, 8, 8, 8, 8, 8, 8, 8, 8, 8, 8, 8, 8, 8, 8, 8, 8, 8, 8, 8, 8, 8, 8, 8, 8, 8, 8, 8, 8, 8, 8, 8, 8, 8, 8, 8, 8, 8, 8, 8, 8, 8, 8, 8, 8, 8, 8, 8, 8, 8, 8, 8, 8, 8, 8] [8, 8, 8, 8, 8, 8, 8, 8, 8, 8, 8, 8, 8, 8, 8, 8, 8, 8, 8, 8, 8, 8, 8, 8, 8, 8, 8, 8, 8, 8, 8, 8, 8, 8, 8, 8, 8, 8, 8, 8, 8, 8, 8, 8, 8, 8, 8, 8, 8, 8, 8, 8, 8, 8, 8, 8, 8, 8, 8, 8, 8, 8, 8, 8]))⟩ : ByteArray) = tab8 := rfl
theorem tab8_size : tab8.size = 256 := by decide +kernel
theorem tab8_all : ∀ i : Nat, i < 256 → (tab8.data.toList.getD i 0).toNat = lenN i := by decide +kernel
theorem tab8_at (n : Nat) : (tab8.data.toList.getD (n % 256) 0).toNat = lenN (n % 256) := tab8_all (n % 256) (Nat.mod_lt _ (by omega))
theorem lenN_bd {x d : Nat} (h : x < 2 ^ d) : lenN x ≤ d := lenN_le.2 h
set_option maxHeartbeats 1000000 in
theorem len64_ct (x : Nat) (hx : x < 18446744073709551616) : ACt Try.prog 55 [nu x] [] (Fn (iv .i64 ((lenN x : Nat) : Int))) := by
  refine ACt.intro Try.func55 rfl (by kernel_rfl) (by simp [Try.ntmps55]) (fun cx => ?_)
  simp only [argE, Try.ntmps55, Try.results55]
  have s1 : ∀ n : Nat, (n : Int).fdiv 4294967296 = ((n / 4294967296 : Nat) : Int) := fun n => by rw [Int.fdiv_eq_ediv_of_nonneg _ (by omega)]; simp
  have s2 : ∀ n : Nat, (n : Int).fdiv 65536 = ((n / 65536 : Nat) : Int) := fun n => by rw [Int.fdiv_eq_ediv_of_nonneg _ (by omega)]; simp
  have s3 : ∀ n : Nat, (n : Int).fdiv 256 = ((n / 256 : Nat) : Int) := fun n => by rw [Int.fdiv_eq_ediv_of_nonneg _ (by omega)]; simp
  have w8 : ∀ n : Nat, IntKind.u8.wrap (n : Int) = ((n % 256 : Nat) : Int) := fun n => by rw [wrap_u8_mod]; omega
  have l8 : ∀ n : Nat, lenN (n % 256) ≤ 8 := fun n => lenN_bd (by have := Nat.mod_lt n (show 256 > 0 by omega); omega)
  have wl : ∀ n : Nat, IntKind.i64.wrap ((lenN (n % 256) : Nat) : Int) = ((lenN (n % 256) : Nat) : Int) := fun n => wrap_i64_nat (by have := l8 n; omega)
  have a0 : ∀ n : Nat, IntKind.i64.wrap (0 + ((lenN (n % 256) : Nat) : Int)) = ((lenN (n % 256) : Nat) : Int) := fun n => by rw [Int.zero_add]; exact wl n
  have a : ∀ (k : Int) (n : Nat), 0 ≤ k → k ≤ 1000 → IntKind.i64.wrap (k + ((lenN (n % 256) : Nat) : Int)) = k + ((lenN (n % 256) : Nat) : Int) := fun k n h1 h2 => wrap_i64 (by omega) (by have := l8 n; omega)
  have b1 : IntKind.i64.wrap (32 + 16) = 48 := by decide
  have b2 : IntKind.i64.wrap (48 + 8) = 56 := by decide
  have b3 : IntKind.i64.wrap (32 + 8) = 40 := by decide
  have b4 : IntKind.i64.wrap (0 + 16) = 16 := by decide
  have b5 : IntKind.i64.wrap (16 + 8) = 24 := by decide
  have b6 : IntKind.i64.wrap (0 + 8) = 8 := by decide
  have c8 := fun n => a 8 n (by decide) (by decide)
  have c16 := fun n => a 16 n (by decide) (by decide)
  have c24 := fun n => a 24 n (by decide) (by decide)
  have c32 := fun n => a 32 n (by decide) (by decide)
  have c40 := fun n => a 40 n (by decide) (by decide)
  have c48 := fun n => a 48 n (by decide) (by decide)
  have c56 := fun n => a 56 n (by decide) (by decide)
  have r1 : 4294967296 ≤ x → lenN x = 32 + lenN (x / 4294967296) := lenN_shift (k := 32)
  have r2 : ∀ y, 65536 ≤ y → lenN y = 16 + lenN (y / 65536) := fun y => lenN_shift (k := 16)
  have r3 : ∀ y, 256 ≤ y → lenN y = 8 + lenN (y / 256) := fun y => lenN_shift (k := 8)
  first | (have FRx := FR; clear FRx) | (have FR : ¬ ((1 : Nat) = 0) := Nat.one_ne_zero)
  repeat' first
    | (refine Sm.mk ?_; try simp -dsimp only [ZK, rvc, drawF, headN, pureH, stp, dvc, calleeOf, gcall, pev, eff, newB, okd, og, ogs, ogo, ogp, slv, bltv, opd, litv, strip, one, both, putE, St.put, look, gdOf, gdv, picka, pickv, pickw, binv, bini, bins, binb, binp, bina, shp, eqCells, unv, convv, nilv, faddv, addp, idxav, idxp, load1, load1m, loadn, loadnm, loadv, hget, hset, hrep, hdel, slicev, bnd, shift1, lenv, IntKind.bits, extractv, fieldv, indexv, min2v, max2v, mkiv, cellsA, fillA, buildv, stC, oneC, rowMB, intsA, plN, appE, appZ, appC, appNZ, appNC, VwL, srcC, srcZ, srcM, isBoolT, isPtrT, isSliceT, uOk, Value.oneCell', Nat.reducePow, Int.reducePow, Nat.reduceAdd, Nat.reduceMul, Nat.reduceSub, Nat.reduceLT, Nat.reduceLeDiff, Nat.reduceEqDiff, Nat.reduceBEq, Nat.reduceDiv, Nat.reduceMod, ↓reduceIte, reduceCtorEq, Int.reduceToNat, Int.reduceLT, Int.reduceLE, TFWiA, SeqQ, BlkQ, LoopQ, BodyQ, s1, s2, s3, w8, wl, tab8_eq, tab8_size, tab8_at, a0, b1, b2, b3, b4, b5, b6, c8, c16, c24, c32, c40, c48, c56, FR])
    | (refine WP.seq fun K hK => ?_)
    | (refine WP.region (rvc_sound _ _ (Sm.out ?_)))
    | (refine WP.drawK rfl mixed (by decide +kernel) (Sm.out ?_))
    | (refine Ob.mk ?_; focus (first | assumption | omega | decide | trivial | (intro hob; simp only [hob, ZF]; done) | (intros; (repeat' refine And.intro ?_ ?_) <;> first | assumption | omega | trivial | decide) | (intros; simp only [ZE] at *; (repeat' refine And.intro ?_ ?_) <;> first | assumption | omega | trivial)))
    | (refine And.intro (Ob.out ?_) ?_)
    | (refine WP.block ?_)
    | (refine WP.cond rfl (fun hc => ?_) (fun hc => ?_) <;> (try simp only [ZC, reduceCtorEq, ZD] at hc) <;> (try (exact absurd hc (by decide))) <;> (try (exfalso; omega)))
    | ((first | refine WP.skip ?_ | refine WP.exit ?_); simp only [SeqQ, BlkQ, LoopQ, BodyQ, ↓reduceIte, Nat.reduceEqDiff, reduceCtorEq, look, true_and])
    | (refine WP.ret (Sm.out ?_))
    | (first | refine ExG.no (Sm.out ?_) | refine Or.inl (ExG.no (Sm.out ?_)) | refine Or.inl (And.intro (fun hg => absurd hg (by decide)) (ExG.no (Sm.out ?_))))
    | (refine Rt.mk ?_; refine And.intro ?_ ?_ <;> (intro hg; first | exact absurd hg (by decide) | refine Sm.out ?_))
    | (refine Nu.mk ?_; first | (fail_if_success (have := nb1)); intro nb1 | (fail_if_success (have := nb2)); intro nb2 | (fail_if_success (have := nb3)); intro nb3 | intro nbz)
    | (refine Fr.mk ?_; intro hfr; replace FR := And.intro hfr FR; clear hfr; refine Sm.out ?_)
    | (refine Two.mk ?_ ?_)
    | (refine Cs.mk ?_; intro hcs; first | exact False.elim hcs | (exfalso; omega) | (refine Sm.out ?_))
    | go_step
    | omega
    | (simp only [maxLen_eq]; omega)
  all_goals (refine OutQ.all ?_ ?_; (focus (simp only [resv, ZK, look, loadv, loadn, loadnm, load1, load1m, hget, ↓reduceIte, Nat.reduceEqDiff, Nat.reduceAdd, Nat.reduceMul, Nat.reduceLeDiff, Nat.reduceLT, reduceCtorEq, TFWiA])); (try simp only [resv, resA, Fn, ZK, look, loadv, loadn, loadnm, load1, load1m, hget, ↓reduceIte, Nat.reduceEqDiff, Nat.reduceAdd, Nat.reduceMul, Nat.reduceLeDiff, Nat.reduceLT, reduceCtorEq, TFWiA]); (try simp [resA, Fn, look]))
  all_goals
    first
    | (rw [Nat.mod_eq_of_lt (by omega)]; done)
    | (rw [Nat.mod_eq_of_lt (by omega)]
       have q1 := r2 x
       have q2 := r2 (x / 4294967296)
       have q3 := r3 x
       have q4 := r3 (x / 4294967296)
       have q5 := r3 (x / 65536)
       have q6 := r3 (x / 4294967296 / 65536)
       omega)
end Go.Proofs.Ytbnkmhlnoaebcaa.Wi
namespace Go.Proofs.Ytbnkmhlnoaebcaa.Wi
open Go
set_option linter.unusedVariables false
set_option linter.unusedSimpArgs false
theorem TFWiB : (((((type_of% tyc3) ∧ (type_of% zmb3)) ∧ ((type_of% tyc4) ∧ (type_of% zmb4))) ∧ (((type_of% tyc5) ∧ (type_of% zmb5)) ∧ ((type_of% tyc41) ∧ ((type_of% zmb41) ∧ (type_of% tyc50))))) ∧ ((((type_of% elt50) ∧ (type_of% mkz50)) ∧ ((type_of% apT50) ∧ ((type_of% elk50) ∧ (type_of% zmb50)))) ∧ (((type_of% Try.underlying3) ∧ (type_of% Try.underlying4)) ∧ ((type_of% Try.underlying5) ∧ ((type_of% Try.underlying41) ∧ (type_of% Try.underlying50)))))) :=
  ⟨⟨⟨⟨tyc3, zmb3⟩, ⟨tyc4, zmb4⟩⟩, ⟨⟨tyc5, zmb5⟩, ⟨tyc41, ⟨zmb41, tyc50⟩⟩⟩⟩, ⟨⟨⟨elt50, mkz50⟩, ⟨apT50, ⟨elk50, zmb50⟩⟩⟩, ⟨⟨Try.underlying3, Try.underlying4⟩, ⟨Try.underlying5, ⟨Try.underlying41, Try.underlying50⟩⟩⟩⟩⟩
theorem size_ct (x : Nat) (hx : x < 18446744073709551616) : ACt Try.prog 52 [nu x] [] (Fn (iv .i64 (((lenN x + 7) / 8 : Nat) : Int))) := by
  refine ACt.intro Try.func52 rfl (by kernel_rfl) (by simp [Try.ntmps52]) (fun cx => ?_)
  simp only [argE, Try.ntmps52, Try.results52]
  have h1 : lenN x ≤ 64 := lenN_le.2 hx
  have e1 : IntKind.i64.wrap (((lenN x : Nat) : Int) + 7) = ((lenN x + 7 : Nat) : Int) := by rw [wrap_i64 (by omega) (by omega)]; omega
  have e2 : ((lenN x + 7 : Nat) : Int).tdiv 8 = (((lenN x + 7) / 8 : Nat) : Int) := by rw [Int.tdiv_eq_ediv_of_nonneg (by omega)]; simp
  have e3 : IntKind.i64.wrap (((lenN x + 7) / 8 : Nat) : Int) = (((lenN x + 7) / 8 : Nat) : Int) := wrap_i64_nat (by omega)
  first | (have FRx := FR; clear FRx) | (have FR : ¬ ((1 : Nat) = 0) := Nat.one_ne_zero)
  repeat' first
    | (refine Sm.mk ?_; try simp -dsimp only [ZK, rvc, drawF, headN, pureH, stp, dvc, calleeOf, gcall, pev, eff, newB, okd, og, ogs, ogo, ogp, slv, bltv, opd, litv, strip, one, both, putE, St.put, look, gdOf, gdv, picka, pickv, pickw, binv, bini, bins, binb, binp, bina, shp, eqCells, unv, convv, nilv, faddv, addp, idxav, idxp, load1, load1m, loadn, loadnm, loadv, hget, hset, hrep, hdel, slicev, bnd, shift1, lenv, IntKind.bits, extractv, fieldv, indexv, min2v, max2v, mkiv, cellsA, fillA, buildv, stC, oneC, rowMB, intsA, plN, appE, appZ, appC, appNZ, appNC, VwL, srcC, srcZ, srcM, isBoolT, isPtrT, isSliceT, uOk, Value.oneCell', Nat.reducePow, Int.reducePow, Nat.reduceAdd, Nat.reduceMul, Nat.reduceSub, Nat.reduceLT, Nat.reduceLeDiff, Nat.reduceEqDiff, Nat.reduceBEq, Nat.reduceDiv, Nat.reduceMod, ↓reduceIte, reduceCtorEq, Int.reduceToNat, Int.reduceLT, Int.reduceLE, TFWiB, SeqQ, BlkQ, LoopQ, BodyQ, e1, e2, e3, FR])
    | (first | refine CallV.fn (len64_ct x hx) (Sm.out ?_) | refine ExF.mk (len64_ct x hx) (Sm.out ?_) | refine ExG.mk (fun _ => len64_ct x hx) (Sm.out ?_) | refine ExG.mkJ (fun _ => len64_ct x hx) (Sm.out ?_) | refine ExG.mkI (Ob.out ?_) (fun _ => len64_ct x hx) (Sm.out ?_))
    | (refine WP.seq fun K hK => ?_)
    | (refine WP.region (rvc_sound _ _ (Sm.out ?_)))
    | (refine WP.drawK rfl mixed (by decide +kernel) (Sm.out ?_))
    | (refine Ob.mk ?_; focus (first | assumption | omega | decide | trivial | (intro hob; simp only [hob, ZF]; done) | (intros; (repeat' refine And.intro ?_ ?_) <;> first | assumption | omega | trivial | decide) | (intros; simp only [ZE] at *; (repeat' refine And.intro ?_ ?_) <;> first | assumption | omega | trivial)))
    | (refine And.intro (Ob.out ?_) ?_)
    | (refine WP.block ?_)
    | (refine WP.cond rfl (fun hc => ?_) (fun hc => ?_) <;> (try simp only [ZC, reduceCtorEq, ZD] at hc) <;> (try (exact absurd hc (by decide))) <;> (try (exfalso; omega)))
    | ((first | refine WP.skip ?_ | refine WP.exit ?_); simp only [SeqQ, BlkQ, LoopQ, BodyQ, ↓reduceIte, Nat.reduceEqDiff, reduceCtorEq, look, true_and])
    | (refine WP.ret (Sm.out ?_))
    | (first | refine ExG.no (Sm.out ?_) | refine Or.inl (ExG.no (Sm.out ?_)) | refine Or.inl (And.intro (fun hg => absurd hg (by decide)) (ExG.no (Sm.out ?_))))
    | (refine Rt.mk ?_; refine And.intro ?_ ?_ <;> (intro hg; first | exact absurd hg (by decide) | refine Sm.out ?_))
    | (refine Nu.mk ?_; first | (fail_if_success (have := nb1)); intro nb1 | (fail_if_success (have := nb2)); intro nb2 | (fail_if_success (have := nb3)); intro nb3 | (fail_if_success (have := nb4)); intro nb4 | (fail_if_success (have := nb5)); intro nb5 | (fail_if_success (have := nb6)); intro nb6 | intro nbz)
    | (refine Fr.mk ?_; intro hfr; replace FR := And.intro hfr FR; clear hfr; refine Sm.out ?_)
    | (refine Two.mk ?_ ?_)
    | (refine Cs.mk ?_; intro hcs; first | exact False.elim hcs | (exfalso; omega) | (refine Sm.out ?_))
    | (refine OutQ.all ?_ ?_; (focus (simp only [resv, ZK, look, loadv, loadn, loadnm, load1, load1m, hget, ↓reduceIte, Nat.reduceEqDiff, Nat.reduceAdd, Nat.reduceMul, Nat.reduceLeDiff, Nat.reduceLT, reduceCtorEq, TFWiB, e1, e2, e3, FR])); (try simp only [resv, resA, Fn, ZK, look, loadv, loadn, loadnm, load1, load1m, hget, ↓reduceIte, Nat.reduceEqDiff, Nat.reduceAdd, Nat.reduceMul, Nat.reduceLeDiff, Nat.reduceLT, reduceCtorEq, TFWiB, e1, e2, e3, FR]); (try simp [resA, Fn, look, e1, e2, e3, FR]); done)
    | go_step
    | omega
    | (simp only [maxLen_eq]; omega)
    | (refine Or.inr (Rt.mk ?_); refine And.intro ?_ ?_ <;> (intro hg; first | exact absurd hg (by decide) | refine Sm.out ?_))
/-- the bytes of a number, the last k of them -/
def byteL (n : Nat) : Nat → List Int
  | 0 => []
  | k + 1 => ((n / 256 ^ k % 256 : Nat) : Int) :: byteL n k
theorem byteL_len (n : Nat) : ∀ k, (byteL n k).length = k
  | 0 => rfl
  | k + 1 => by simp [byteL, byteL_len n k]
def putL (s : Int) (n : Nat) : List Int := ibit .or .u8 s (((lenN n + 7) / 8 : Nat) : Int) :: byteL n ((lenN n + 7) / 8)
structure UG where
  k : Nat
  acc : List Int
  b : Nat
  cap : Nat
set_option maxRecDepth 8000 in
set_option maxHeartbeats 1000000 in
theorem put_nil (s : Int) (n : Nat) (hn : n < 18446744073709551616) : ACt Try.prog 48 [.lit (.slice none 0 0), iv .u8 s, nu n] [] (Row .u8 5 (putL s n)) := by
  refine ACt.intro Try.func48 rfl (by kernel_rfl) (by simp [Try.ntmps48]) (fun cx => ?_)
  simp only [argE, Try.ntmps48, Try.results48]
  have h1 : lenN n ≤ 64 := lenN_le.2 hn
  obtain ⟨kk, hkk⟩ : ∃ kk, kk = (lenN n + 7) / 8 := ⟨_, rfl⟩
  have hkk8 : kk ≤ 8 := by omega
  have c1 := size_ct n hn
  rw [← hkk] at c1
  have w1 : IntKind.u8.wrap (kk : Int) = (kk : Int) := wrap_u8 (by omega) (by omega)
  obtain ⟨h, hh⟩ : ∃ h, h = ibit .or .u8 s (kk : Int) := ⟨_, rfl⟩
  have hp : putL s n = h :: byteL n kk := by unfold putL; rw [← hkk, ← hh]
  have hh' : ibit .or .u8 s (kk : Int) = h := hh.symm
  first | (have FRx := FR; clear FRx) | (have FR : ¬ ((1 : Nat) = 0) := Nat.one_ne_zero)
  repeat' first
    | (refine Sm.mk ?_; try simp -dsimp only [ZK, rvc, drawF, headN, pureH, stp, dvc, calleeOf, gcall, pev, eff, newB, okd, og, ogs, ogo, ogp, slv, bltv, opd, litv, strip, one, both, putE, St.put, look, gdOf, gdv, picka, pickv, pickw, binv, bini, bins, binb, binp, bina, shp, eqCells, unv, convv, nilv, faddv, addp, idxav, idxp, load1, load1m, loadn, loadnm, loadv, hget, hset, hrep, hdel, slicev, bnd, shift1, lenv, IntKind.bits, extractv, fieldv, indexv, min2v, max2v, mkiv, cellsA, fillA, buildv, stC, oneC, rowMB, intsA, plN, appE, appZ, appC, appNZ, appNC, VwL, srcC, srcZ, srcM, isBoolT, isPtrT, isSliceT, uOk, Value.oneCell', Nat.reducePow, Int.reducePow, Nat.reduceAdd, Nat.reduceMul, Nat.reduceSub, Nat.reduceLT, Nat.reduceLeDiff, Nat.reduceEqDiff, Nat.reduceBEq, Nat.reduceDiv, Nat.reduceMod, ↓reduceIte, reduceCtorEq, Int.reduceToNat, Int.reduceLT, Int.reduceLE, TFWiB, SeqQ, BlkQ, LoopQ, BodyQ, w1, hh', FR])
    | (refine CallV.row (by simp only [hget, ↓reduceIte, FR, w1, hh']; first | done | rfl) (c1) (Sm.out ?_))
    | (refine CallV.mkrow (c1) (Sm.out ?_))
    | (refine CallV.upd (by simp only [hget, ↓reduceIte, FR, w1, hh']; first | done | rfl) (c1) (Sm.out ?_))
    | (refine CallV.mkobj (c1) (Sm.out ?_))
    | (first | refine CallV.fn (c1) (Sm.out ?_) | refine ExF.mk (c1) (Sm.out ?_) | refine ExG.mk (fun _ => c1) (Sm.out ?_) | refine ExG.mkJ (fun _ => c1) (Sm.out ?_) | refine ExG.mkI (Ob.out ?_) (fun _ => c1) (Sm.out ?_))
    | (refine WP.seq fun K hK => ?_)
    | (refine WP.region (rvc_sound _ _ (Sm.out ?_)))
    | (refine WP.drawK rfl mixed (by decide +kernel) (Sm.out ?_))
    | (refine Ob.mk ?_; focus (first | assumption | omega | decide | trivial | (intro hob; simp only [hob, ZF]; done) | (intros; (repeat' refine And.intro ?_ ?_) <;> first | assumption | omega | trivial | decide) | (intros; simp only [ZE] at *; (repeat' refine And.intro ?_ ?_) <;> first | assumption | omega | trivial)))
    | (refine And.intro (Ob.out ?_) ?_)
    | (refine WP.block ?_)
    | (refine WP.cond rfl (fun hc => ?_) (fun hc => ?_) <;> (try simp only [ZC, reduceCtorEq, ZD] at hc) <;> (try (exact absurd hc (by decide))) <;> (try (exfalso; omega)))
    | ((first | refine WP.skip ?_ | refine WP.exit ?_); simp only [SeqQ, BlkQ, LoopQ, BodyQ, ↓reduceIte, Nat.reduceEqDiff, reduceCtorEq, look, true_and])
    | (refine WP.ret (Sm.out ?_))
    | (first | refine ExG.no (Sm.out ?_) | refine Or.inl (ExG.no (Sm.out ?_)) | refine Or.inl (And.intro (fun hg => absurd hg (by decide)) (ExG.no (Sm.out ?_))))
    | (refine Rt.mk ?_; refine And.intro ?_ ?_ <;> (intro hg; first | exact absurd hg (by decide) | refine Sm.out ?_))
    | (refine Nu.mk ?_; first | (fail_if_success (have := nb1)); intro nb1 | (fail_if_success (have := nb2)); intro nb2 | (fail_if_success (have := nb3)); intro nb3 | (fail_if_success (have := nb4)); intro nb4 | (fail_if_success (have := nb5)); intro nb5 | (fail_if_success (have := nb6)); intro nb6 | intro nbz)
    | (refine Fr.mk ?_; intro hfr; replace FR := And.intro hfr FR; clear hfr; refine Sm.out ?_)
    | (refine Two.mk ?_ ?_)
    | (refine Cs.mk ?_; intro hcs; first | exact False.elim hcs | (exfalso; omega) | (refine Sm.out ?_))
    | go_step
    | omega
    | (simp only [maxLen_eq]; omega)
    | (refine Or.inr (Rt.mk ?_); refine And.intro ?_ ?_ <;> (intro hg; first | exact absurd hg (by decide) | refine Sm.out ?_))
  refine WP.loop (Γ := UG) (fun g => ⟨[(7, iv .i64 g.k), (0, ms g.b 0 g.acc.length g.cap), (2, nu n)], [(g.b, .zs .u8 g.acc g.cap 5)]⟩)
    (fun g => g.acc ++ byteL n g.k = h :: byteL n kk ∧ g.k ≤ kk ∧ g.acc.length ≤ 9 ∧ g.acc.length + g.k ≤ 9 ∧ g.acc.length ≤ g.cap ∧ g.cap ≤ 9223372036854775807) (fun g => g.k) ⟨kk, [h], nb2, nb3⟩
    ⟨by simp, by simp, by simp, by simp only [List.length_cons, List.length_nil]; omega, by simp only [List.length_cons, List.length_nil]; omega, by simp only; omega⟩ (Sub.pick (by simp [pickB, hget, hdel, FR]) (by simp [look])) ?_
  intro ⟨k, acc, b, cap⟩ ⟨g1, g2, g3, g4, g5, g6⟩
  simp only at g1 g2 g3 g4 g5 g6 ⊢
  (refine WP.nd fun hnd => ?_; simp only [ndF, fresh_cons, fresh_nil, and_true, ne_eq] at hnd; replace FR := And.intro hnd FR; clear hnd)
  cases k with
  | zero =>
    have k1 : decide (((0 : Nat) : Int) > 0) = false := by decide
    rw [byteL, List.append_nil] at g1
    first | (have FRx := FR; clear FRx) | (have FR : ¬ ((1 : Nat) = 0) := Nat.one_ne_zero)
    repeat' first
      | (refine Sm.mk ?_; try simp -dsimp only [ZK, rvc, drawF, headN, pureH, stp, dvc, calleeOf, gcall, pev, eff, newB, okd, og, ogs, ogo, ogp, slv, bltv, opd, litv, strip, one, both, putE, St.put, look, gdOf, gdv, picka, pickv, pickw, binv, bini, bins, binb, binp, bina, shp, eqCells, unv, convv, nilv, faddv, addp, idxav, idxp, load1, load1m, loadn, loadnm, loadv, hget, hset, hrep, hdel, slicev, bnd, shift1, lenv, IntKind.bits, extractv, fieldv, indexv, min2v, max2v, mkiv, cellsA, fillA, buildv, stC, oneC, rowMB, intsA, plN, appE, appZ, appC, appNZ, appNC, VwL, srcC, srcZ, srcM, isBoolT, isPtrT, isSliceT, uOk, Value.oneCell', Nat.reducePow, Int.reducePow, Nat.reduceAdd, Nat.reduceMul, Nat.reduceSub, Nat.reduceLT, Nat.reduceLeDiff, Nat.reduceEqDiff, Nat.reduceBEq, Nat.reduceDiv, Nat.reduceMod, ↓reduceIte, reduceCtorEq, Int.reduceToNat, Int.reduceLT, Int.reduceLE, TFWiB, SeqQ, BlkQ, LoopQ, BodyQ, k1, FR])
      | (refine WP.seq fun K hK => ?_)
      | (refine WP.region (rvc_sound _ _ (Sm.out ?_)))
      | (refine WP.drawK rfl mixed (by decide +kernel) (Sm.out ?_))
      | (refine Ob.mk ?_; focus (first | assumption | omega | decide | trivial | (intro hob; simp only [hob, ZF]; done) | (intros; (repeat' refine And.intro ?_ ?_) <;> first | assumption | omega | trivial | decide) | (intros; simp only [ZE] at *; (repeat' refine And.intro ?_ ?_) <;> first | assumption | omega | trivial)))
      | (refine And.intro (Ob.out ?_) ?_)
      | (refine WP.block ?_)
      | (refine WP.cond rfl (fun hc => ?_) (fun hc => ?_) <;> (try simp only [ZC, reduceCtorEq, ZD] at hc) <;> (try (exact absurd hc (by decide))) <;> (try (exfalso; omega)))
      | ((first | refine WP.skip ?_ | refine WP.exit ?_); simp only [SeqQ, BlkQ, LoopQ, BodyQ, ↓reduceIte, Nat.reduceEqDiff, reduceCtorEq, look, true_and])
      | (refine WP.ret (Sm.out ?_))
      | (first | refine ExG.no (Sm.out ?_) | refine Or.inl (ExG.no (Sm.out ?_)) | refine Or.inl (And.intro (fun hg => absurd hg (by decide)) (ExG.no (Sm.out ?_))))
      | (refine Rt.mk ?_; refine And.intro ?_ ?_ <;> (intro hg; first | exact absurd hg (by decide) | refine Sm.out ?_))
      | (refine Nu.mk ?_; first | (fail_if_success (have := nb1)); intro nb1 | (fail_if_success (have := nb2)); intro nb2 | (fail_if_success (have := nb3)); intro nb3 | (fail_if_success (have := nb4)); intro nb4 | (fail_if_success (have := nb5)); intro nb5 | (fail_if_success (have := nb6)); intro nb6 | intro nbz)
      | (refine Fr.mk ?_; intro hfr; replace FR := And.intro hfr FR; clear hfr; refine Sm.out ?_)
      | (refine Two.mk ?_ ?_)
      | (refine Cs.mk ?_; intro hcs; first | exact False.elim hcs | (exfalso; omega) | (refine Sm.out ?_))
      | go_step
      | omega
      | (simp only [maxLen_eq]; omega)
      | (refine Or.inr (Rt.mk ?_); refine And.intro ?_ ?_ <;> (intro hg; first | exact absurd hg (by decide) | refine Sm.out ?_))
    (refine OutQ.row (by simp only [resv, ZK, look, loadv, loadn, loadnm, load1, load1m, hget, ↓reduceIte, Nat.reduceEqDiff, Nat.reduceAdd, Nat.reduceMul, Nat.reduceLeDiff, Nat.reduceLT, reduceCtorEq, TFWiB, FR]) (by simp only [resv, resA, ZK, look, loadv, loadn, loadnm, load1, load1m, hget, ↓reduceIte, Nat.reduceEqDiff, Nat.reduceAdd, Nat.reduceMul, Nat.reduceLeDiff, Nat.reduceLT, reduceCtorEq, TFWiB, FR]; first | done | rfl) (by simp only [hget, ↓reduceIte, if_true, if_false, FR]; first | done | rfl) ?_ ?_ ?_ ?_ <;> first | omega | (simp only [maxLen_eq]; omega) | skip)
    all_goals first | omega | (rw [hp, g1]; done) | (simp [hp, ← g1]; done)
  | succ k' =>
    have k1 : decide (((k' + 1 : Nat) : Int) > 0) = true := decide_eq_true (by omega)
    have e1 : IntKind.i64.wrap (((k' + 1 : Nat) : Int) - 1) = (k' : Int) := by rw [wrap_i64 (by omega) (by omega)]; try omega
    have e2 : IntKind.i64.wrap (8 * (k' : Int)) = ((8 * k' : Nat) : Int) := by rw [wrap_i64 (by omega) (by omega)]; try omega
    have e3 : 8 * k' ≤ 64 := by omega
    have e4 : (n : Int).fdiv (2 ^ (8 * k')) = ((n / 256 ^ k' : Nat) : Int) := by
      rw [Int.fdiv_eq_ediv_of_nonneg _ (by exact Int.le_of_lt (Int.pow_pos (by omega))), show (256 : Nat) = 2 ^ 8 from rfl, ← Nat.pow_mul]
      simp
    have e5 : IntKind.u8.wrap ((n / 256 ^ k' : Nat) : Int) = ((n / 256 ^ k' % 256 : Nat) : Int) := by rw [wrap_u8_mod]; omega
    obtain ⟨acc', ha⟩ : ∃ acc', acc' = acc ++ [((n / 256 ^ k' % 256 : Nat) : Int)] := ⟨_, rfl⟩
    have e6 : acc ++ [((n / 256 ^ k' % 256 : Nat) : Int)] = acc' := ha.symm
    have e7 : acc'.length = acc.length + 1 := by rw [ha]; simp
    first | (have FRx := FR; clear FRx) | (have FR : ¬ ((1 : Nat) = 0) := Nat.one_ne_zero)
    repeat' first
      | (refine Sm.mk ?_; try simp -dsimp only [ZK, rvc, drawF, headN, pureH, stp, dvc, calleeOf, gcall, pev, eff, newB, okd, og, ogs, ogo, ogp, slv, bltv, opd, litv, strip, one, both, putE, St.put, look, gdOf, gdv, picka, pickv, pickw, binv, bini, bins, binb, binp, bina, shp, eqCells, unv, convv, nilv, faddv, addp, idxav, idxp, load1, load1m, loadn, loadnm, loadv, hget, hset, hrep, hdel, slicev, bnd, shift1, lenv, IntKind.bits, extractv, fieldv, indexv, min2v, max2v, mkiv, cellsA, fillA, buildv, stC, oneC, rowMB, intsA, plN, appE, appZ, appC, appNZ, appNC, VwL, srcC, srcZ, srcM, isBoolT, isPtrT, isSliceT, uOk, Value.oneCell', Nat.reducePow, Int.reducePow, Nat.reduceAdd, Nat.reduceMul, Nat.reduceSub, Nat.reduceLT, Nat.reduceLeDiff, Nat.reduceEqDiff, Nat.reduceBEq, Nat.reduceDiv, Nat.reduceMod, ↓reduceIte, reduceCtorEq, Int.reduceToNat, Int.reduceLT, Int.reduceLE, TFWiB, SeqQ, BlkQ, LoopQ, BodyQ, k1, e1, e2, e3, e4, e5, e6, FR])
      | (refine WP.seq fun K hK => ?_)
      | (refine WP.region (rvc_sound _ _ (Sm.out ?_)))
      | (refine WP.drawK rfl mixed (by decide +kernel) (Sm.out ?_))
      | (refine Ob.mk ?_; focus (first | assumption | omega | decide | trivial | (intro hob; simp only [hob, ZF]; done) | (intros; (repeat' refine And.intro ?_ ?_) <;> first | assumption | omega | trivial | decide) | (intros; simp only [ZE] at *; (repeat' refine And.intro ?_ ?_) <;> first | assumption | omega | trivial)))
      | (refine And.intro (Ob.out ?_) ?_)
      | (refine WP.block ?_)
      | (refine WP.cond rfl (fun hc => ?_) (fun hc => ?_) <;> (try simp only [ZC, reduceCtorEq, ZD] at hc) <;> (try (exact absurd hc (by decide))) <;> (try (exfalso; omega)))
      | ((first | refine WP.skip ?_ | refine WP.exit ?_); simp only [SeqQ, BlkQ, LoopQ, BodyQ, ↓reduceIte, Nat.reduceEqDiff, reduceCtorEq, look, true_and])
      | (refine WP.ret (Sm.out ?_))
      | (first | refine ExG.no (Sm.out ?_) | refine Or.inl (ExG.no (Sm.out ?_)) | refine Or.inl (And.intro (fun hg => absurd hg (by decide)) (ExG.no (Sm.out ?_))))
      | (refine Rt.mk ?_; refine And.intro ?_ ?_ <;> (intro hg; first | exact absurd hg (by decide) | refine Sm.out ?_))
      | (refine Nu.mk ?_; first | (fail_if_success (have := nb1)); intro nb1 | (fail_if_success (have := nb2)); intro nb2 | (fail_if_success (have := nb3)); intro nb3 | (fail_if_success (have := nb4)); intro nb4 | (fail_if_success (have := nb5)); intro nb5 | (fail_if_success (have := nb6)); intro nb6 | intro nbz)
      | (refine Fr.mk ?_; intro hfr; replace FR := And.intro hfr FR; clear hfr; refine Sm.out ?_)
      | (refine Two.mk ?_ ?_)
      | (refine Cs.mk ?_; intro hcs; first | exact False.elim hcs | (exfalso; omega) | (refine Sm.out ?_))
      | go_step
      | omega
      | (simp only [maxLen_eq]; omega)
      | (refine Or.inr (Rt.mk ?_); refine And.intro ?_ ?_ <;> (intro hg; first | exact absurd hg (by decide) | refine Sm.out ?_))
    refine ⟨⟨k', acc', nb5, nb6⟩, ⟨?_, by simp only; omega, by simp only; omega, by simp only; omega, by simp only; omega, by simp only; omega⟩, by simp only; omega, (Sub.pick (by simp [pickB, hget, hdel, FR, e7]) (by simp [look, e7]))⟩
    simp only
    rw [← g1, ha, byteL, List.append_assoc]; rfl
theorem num_nil (n : Nat) (hn : n < 18446744073709551616) : ACt Try.prog 40 [.lit (.slice none 0 0), nu n] [] (Row .u8 5 (putL 0 n)) := by
  refine ACt.intro Try.func40 rfl (by kernel_rfl) (by simp [Try.ntmps40]) (fun cx => ?_)
  simp only [argE, Try.ntmps40, Try.results40]
  first | (have FRx := FR; clear FRx) | (have FR : ¬ ((1 : Nat) = 0) := Nat.one_ne_zero)
  repeat' first
    | (refine Sm.mk ?_; try simp -dsimp only [ZK, rvc, drawF, headN, pureH, stp, dvc, calleeOf, gcall, pev, eff, newB, okd, og, ogs, ogo, ogp, slv, bltv, opd, litv, strip, one, both, putE, St.put, look, gdOf, gdv, picka, pickv, pickw, binv, bini, bins, binb, binp, bina, shp, eqCells, unv, convv, nilv, faddv, addp, idxav, idxp, load1, load1m, loadn, loadnm, loadv, hget, hset, hrep, hdel, slicev, bnd, shift1, lenv, IntKind.bits, extractv, fieldv, indexv, min2v, max2v, mkiv, cellsA, fillA, buildv, stC, oneC, rowMB, intsA, plN, appE, appZ, appC, appNZ, appNC, VwL, srcC, srcZ, srcM, isBoolT, isPtrT, isSliceT, uOk, Value.oneCell', Nat.reducePow, Int.reducePow, Nat.reduceAdd, Nat.reduceMul, Nat.reduceSub, Nat.reduceLT, Nat.reduceLeDiff, Nat.reduceEqDiff, Nat.reduceBEq, Nat.reduceDiv, Nat.reduceMod, ↓reduceIte, reduceCtorEq, Int.reduceToNat, Int.reduceLT, Int.reduceLE, TFWiB, SeqQ, BlkQ, LoopQ, BodyQ, FR])
    | (refine CallV.row (by simp only [hget, ↓reduceIte, FR]; first | done | rfl) (put_nil 0 n hn) (Sm.out ?_))
    | (refine CallV.mkrow (put_nil 0 n hn) (Sm.out ?_))
    | (refine CallV.upd (by simp only [hget, ↓reduceIte, FR]; first | done | rfl) (put_nil 0 n hn) (Sm.out ?_))
    | (refine CallV.mkobj (put_nil 0 n hn) (Sm.out ?_))
    | (first | refine CallV.fn (put_nil 0 n hn) (Sm.out ?_) | refine ExF.mk (put_nil 0 n hn) (Sm.out ?_) | refine ExG.mk (fun _ => put_nil 0 n hn) (Sm.out ?_) | refine ExG.mkJ (fun _ => put_nil 0 n hn) (Sm.out ?_) | refine ExG.mkI (Ob.out ?_) (fun _ => put_nil 0 n hn) (Sm.out ?_))
    | (refine WP.seq fun K hK => ?_)
    | (refine WP.region (rvc_sound _ _ (Sm.out ?_)))
    | (refine WP.drawK rfl mixed (by decide +kernel) (Sm.out ?_))
    | (refine Ob.mk ?_; focus (first | assumption | omega | decide | trivial | (intro hob; simp only [hob, ZF]; done) | (intros; (repeat' refine And.intro ?_ ?_) <;> first | assumption | omega | trivial | decide) | (intros; simp only [ZE] at *; (repeat' refine And.intro ?_ ?_) <;> first | assumption | omega | trivial)))
    | (refine And.intro (Ob.out ?_) ?_)
    | (refine WP.block ?_)
    | (refine WP.cond rfl (fun hc => ?_) (fun hc => ?_) <;> (try simp only [ZC, reduceCtorEq, ZD] at hc) <;> (try (exact absurd hc (by decide))) <;> (try (exfalso; omega)))
    | ((first | refine WP.skip ?_ | refine WP.exit ?_); simp only [SeqQ, BlkQ, LoopQ, BodyQ, ↓reduceIte, Nat.reduceEqDiff, reduceCtorEq, look, true_and])
    | (refine WP.ret (Sm.out ?_))
    | (first | refine ExG.no (Sm.out ?_) | refine Or.inl (ExG.no (Sm.out ?_)) | refine Or.inl (And.intro (fun hg => absurd hg (by decide)) (ExG.no (Sm.out ?_))))
    | (refine Rt.mk ?_; refine And.intro ?_ ?_ <;> (intro hg; first | exact absurd hg (by decide) | refine Sm.out ?_))
    | (refine Nu.mk ?_; first | (fail_if_success (have := nb1)); intro nb1 | (fail_if_success (have := nb2)); intro nb2 | (fail_if_success (have := nb3)); intro nb3 | (fail_if_success (have := nb4)); intro nb4 | (fail_if_success (have := nb5)); intro nb5 | (fail_if_success (have := nb6)); intro nb6 | intro nbz)
    | (refine Fr.mk ?_; intro hfr; replace FR := And.intro hfr FR; clear hfr; refine Sm.out ?_)
    | (refine Two.mk ?_ ?_)
    | (refine Cs.mk ?_; intro hcs; first | exact False.elim hcs | (exfalso; omega) | (refine Sm.out ?_))
    | go_step
    | omega
    | (simp only [maxLen_eq]; omega)
    | (refine Or.inr (Rt.mk ?_); refine And.intro ?_ ?_ <;> (intro hg; first | exact absurd hg (by decide) | refine Sm.out ?_))
  (refine OutQ.row (by simp only [resv, ZK, look, loadv, loadn, loadnm, load1, load1m, hget, ↓reduceIte, Nat.reduceEqDiff, Nat.reduceAdd, Nat.reduceMul, Nat.reduceLeDiff, Nat.reduceLT, reduceCtorEq, TFWiB, FR]) (by simp only [resv, resA, ZK, look, loadv, loadn, loadnm, load1, load1m, hget, ↓reduceIte, Nat.reduceEqDiff, Nat.reduceAdd, Nat.reduceMul, Nat.reduceLeDiff, Nat.reduceLT, reduceCtorEq, TFWiB, FR]; first | done | rfl) (by simp only [hget, ↓reduceIte, if_true, if_false, FR]; first | done | rfl) ?_ ?_ ?_ ?_ <;> first | omega | (simp only [maxLen_eq]; omega) | skip)
  all_goals rfl
end Go.Proofs.Ytbnkmhlnoaebcaa.Wi
namespace Go.Proofs.Ytbnkmhlnoaebcaa.Wi
open Go
set_option linter.unusedVariables false
set_option linter.unusedSimpArgs false
theorem TFWiP : (((((type_of% tyc3) ∧ (type_of% zmb3)) ∧ ((type_of% tyc4) ∧ (type_of% zmb4))) ∧ (((type_of% tyc5) ∧ (type_of% zmb5)) ∧ ((type_of% tyc41) ∧ ((type_of% zmb41) ∧ (type_of% tyc50))))) ∧ ((((type_of% elt50) ∧ (type_of% mkz50)) ∧ ((type_of% apT50) ∧ ((type_of% elk50) ∧ (type_of% zmb50)))) ∧ (((type_of% Try.underlying3) ∧ (type_of% Try.underlying4)) ∧ ((type_of% Try.underlying5) ∧ ((type_of% Try.underlying41) ∧ (type_of% Try.underlying50)))))) :=
  ⟨⟨⟨⟨tyc3, zmb3⟩, ⟨tyc4, zmb4⟩⟩, ⟨⟨tyc5, zmb5⟩, ⟨tyc41, ⟨zmb41, tyc50⟩⟩⟩⟩, ⟨⟨⟨elt50, mkz50⟩, ⟨apT50, ⟨elk50, zmb50⟩⟩⟩, ⟨⟨Try.underlying3, Try.underlying4⟩, ⟨Try.underlying5, ⟨Try.underlying41, Try.underlying50⟩⟩⟩⟩⟩
theorem putL_len (s : Int) (n : Nat) (hn : n < 18446744073709551616) : (putL s n).length ≤ 9 := by
  have h1 : lenN n ≤ 64 := lenN_le.2 hn
  unfold putL; simp [byteL_len]; omega
set_option maxRecDepth 8000 in
set_option maxHeartbeats 1000000 in
theorem put_ct (b0 cap0 : Nat) (zs : List Int) (s : Int) (n : Nat) (hz : zs.length ≤ 100000) (hc1 : zs.length ≤ cap0) (hc2 : cap0 ≤ 9223372036854775807) (hn : n < 18446744073709551616) :
    ACt Try.prog 48 [ms b0 0 zs.length cap0, iv .u8 s, nu n] [(b0, .zs .u8 zs cap0 5)] (Row .u8 5 (zs ++ putL s n)) := by
  refine ACt.intro Try.func48 rfl (by kernel_rfl) (by simp [Try.ntmps48]) (fun cx => ?_)
  simp only [argE, Try.ntmps48, Try.results48]
  have h1 : lenN n ≤ 64 := lenN_le.2 hn
  obtain ⟨kk, hkk⟩ : ∃ kk, kk = (lenN n + 7) / 8 := ⟨_, rfl⟩
  have hkk8 : kk ≤ 8 := by omega
  have c1 := size_ct n hn
  rw [← hkk] at c1
  have w1 : IntKind.u8.wrap (kk : Int) = (kk : Int) := wrap_u8 (by omega) (by omega)
  obtain ⟨h, hh⟩ : ∃ h, h = ibit .or .u8 s (kk : Int) := ⟨_, rfl⟩
  obtain ⟨T, hT⟩ : ∃ T, T = zs ++ [h] := ⟨_, rfl⟩
  have hT' : zs ++ [h] = T := hT.symm
  have lT : T.length = zs.length + 1 := by rw [hT]; simp
  have hp : zs ++ putL s n = T ++ byteL n kk := by unfold putL; rw [← hkk, ← hh, hT]; simp
  have hh' : ibit .or .u8 s (kk : Int) = h := hh.symm
  first | (have FRx := FR; clear FRx) | (have FR : ¬ ((1 : Nat) = 0) := Nat.one_ne_zero)
  repeat' first
    | (refine Sm.mk ?_; try simp -dsimp only [ZK, rvc, drawF, headN, pureH, stp, dvc, calleeOf, gcall, pev, eff, newB, okd, og, ogs, ogo, ogp, slv, bltv, opd, litv, strip, one, both, putE, St.put, look, gdOf, gdv, picka, pickv, pickw, binv, bini, bins, binb, binp, bina, shp, eqCells, unv, convv, nilv, faddv, addp, idxav, idxp, load1, load1m, loadn, loadnm, loadv, hget, hset, hrep, hdel, slicev, bnd, shift1, lenv, IntKind.bits, extractv, fieldv, indexv, min2v, max2v, mkiv, cellsA, fillA, buildv, stC, oneC, rowMB, intsA, plN, appE, appZ, appC, appNZ, appNC, VwL, srcC, srcZ, srcM, isBoolT, isPtrT, isSliceT, uOk, Value.oneCell', Nat.reducePow, Int.reducePow, Nat.reduceAdd, Nat.reduceMul, Nat.reduceSub, Nat.reduceLT, Nat.reduceLeDiff, Nat.reduceEqDiff, Nat.reduceBEq, Nat.reduceDiv, Nat.reduceMod, ↓reduceIte, reduceCtorEq, Int.reduceToNat, Int.reduceLT, Int.reduceLE, TFWiP, SeqQ, BlkQ, LoopQ, BodyQ, w1, hh', hT', FR])
    | (refine CallV.row (by simp only [hget, ↓reduceIte, FR, w1, hh', hT']; first | done | rfl) (c1) (Sm.out ?_))
    | (refine CallV.mkrow (c1) (Sm.out ?_))
    | (refine CallV.upd (by simp only [hget, ↓reduceIte, FR, w1, hh', hT']; first | done | rfl) (c1) (Sm.out ?_))
    | (refine CallV.mkobj (c1) (Sm.out ?_))
    | (first | refine CallV.fn (c1) (Sm.out ?_) | refine ExF.mk (c1) (Sm.out ?_) | refine ExG.mk (fun _ => c1) (Sm.out ?_) | refine ExG.mkJ (fun _ => c1) (Sm.out ?_) | refine ExG.mkI (Ob.out ?_) (fun _ => c1) (Sm.out ?_))
    | (refine WP.seq fun K hK => ?_)
    | (refine WP.region (rvc_sound _ _ (Sm.out ?_)))
    | (refine WP.drawK rfl mixed (by decide +kernel) (Sm.out ?_))
    | (refine Ob.mk ?_; focus (first | assumption | omega | decide | trivial | (intro hob; simp only [hob, ZF]; done) | (intros; (repeat' refine And.intro ?_ ?_) <;> first | assumption | omega | trivial | decide) | (intros; simp only [ZE] at *; (repeat' refine And.intro ?_ ?_) <;> first | assumption | omega | trivial)))
    | (refine And.intro (Ob.out ?_) ?_)
    | (refine WP.block ?_)
    | (refine WP.cond rfl (fun hc => ?_) (fun hc => ?_) <;> (try simp only [ZC, reduceCtorEq, ZD] at hc) <;> (try (exact absurd hc (by decide))) <;> (try (exfalso; omega)))
    | ((first | refine WP.skip ?_ | refine WP.exit ?_); simp only [SeqQ, BlkQ, LoopQ, BodyQ, ↓reduceIte, Nat.reduceEqDiff, reduceCtorEq, look, true_and])
    | (refine WP.ret (Sm.out ?_))
    | (first | refine ExG.no (Sm.out ?_) | refine Or.inl (ExG.no (Sm.out ?_)) | refine Or.inl (And.intro (fun hg => absurd hg (by decide)) (ExG.no (Sm.out ?_))))
    | (refine Rt.mk ?_; refine And.intro ?_ ?_ <;> (intro hg; first | exact absurd hg (by decide) | refine Sm.out ?_))
    | (refine Nu.mk ?_; first | (fail_if_success (have := nb1)); intro nb1 | (fail_if_success (have := nb2)); intro nb2 | (fail_if_success (have := nb3)); intro nb3 | (fail_if_success (have := nb4)); intro nb4 | (fail_if_success (have := nb5)); intro nb5 | (fail_if_success (have := nb6)); intro nb6 | intro nbz)
    | (refine Fr.mk ?_; intro hfr; replace FR := And.intro hfr FR; clear hfr; refine Sm.out ?_)
    | (refine Two.mk ?_ ?_)
    | (refine Cs.mk ?_; intro hcs; first | exact False.elim hcs | (exfalso; omega) | (refine Sm.out ?_))
    | go_step
    | omega
    | (simp only [maxLen_eq]; omega)
    | (refine Or.inr (Rt.mk ?_); refine And.intro ?_ ?_ <;> (intro hg; first | exact absurd hg (by decide) | refine Sm.out ?_))
  refine WP.loop (Γ := UG) (fun g => ⟨[(7, iv .i64 g.k), (0, ms g.b 0 g.acc.length g.cap), (2, nu n)], [(g.b, .zs .u8 g.acc g.cap 5)]⟩)
    (fun g => g.acc ++ byteL n g.k = T ++ byteL n kk ∧ g.k ≤ kk ∧ g.acc.length + g.k ≤ 100009 ∧ g.acc.length ≤ g.cap ∧ g.cap ≤ 9223372036854775807) (fun g => g.k) ⟨kk, T, nb2, nb3⟩
    ⟨by simp, by simp, by simp only; omega, by simp only; omega, by simp only; omega⟩ (Sub.pick (by simp [pickB, hget, hdel, FR, lT]) (by simp [look, lT])) ?_
  intro ⟨k, acc, b, cap⟩ ⟨g1, g2, g4, g5, g6⟩
  simp only at g1 g2 g4 g5 g6 ⊢
  (refine WP.nd fun hnd => ?_; simp only [ndF, fresh_cons, fresh_nil, and_true, ne_eq] at hnd; replace FR := And.intro hnd FR; clear hnd)
  cases k with
  | zero =>
    have k1 : decide (((0 : Nat) : Int) > 0) = false := by decide
    rw [byteL, List.append_nil] at g1
    first | (have FRx := FR; clear FRx) | (have FR : ¬ ((1 : Nat) = 0) := Nat.one_ne_zero)
    repeat' first
      | (refine Sm.mk ?_; try simp -dsimp only [ZK, rvc, drawF, headN, pureH, stp, dvc, calleeOf, gcall, pev, eff, newB, okd, og, ogs, ogo, ogp, slv, bltv, opd, litv, strip, one, both, putE, St.put, look, gdOf, gdv, picka, pickv, pickw, binv, bini, bins, binb, binp, bina, shp, eqCells, unv, convv, nilv, faddv, addp, idxav, idxp, load1, load1m, loadn, loadnm, loadv, hget, hset, hrep, hdel, slicev, bnd, shift1, lenv, IntKind.bits, extractv, fieldv, indexv, min2v, max2v, mkiv, cellsA, fillA, buildv, stC, oneC, rowMB, intsA, plN, appE, appZ, appC, appNZ, appNC, VwL, srcC, srcZ, srcM, isBoolT, isPtrT, isSliceT, uOk, Value.oneCell', Nat.reducePow, Int.reducePow, Nat.reduceAdd, Nat.reduceMul, Nat.reduceSub, Nat.reduceLT, Nat.reduceLeDiff, Nat.reduceEqDiff, Nat.reduceBEq, Nat.reduceDiv, Nat.reduceMod, ↓reduceIte, reduceCtorEq, Int.reduceToNat, Int.reduceLT, Int.reduceLE, TFWiP, SeqQ, BlkQ, LoopQ, BodyQ, k1, FR])
      | (refine WP.seq fun K hK => ?_)
      | (refine WP.region (rvc_sound _ _ (Sm.out ?_)))
      | (refine WP.drawK rfl mixed (by decide +kernel) (Sm.out ?_))
      | (refine Ob.mk ?_; focus (first | assumption | omega | decide | trivial | (intro hob; simp only [hob, ZF]; done) | (intros; (repeat' refine And.intro ?_ ?_) <;> first | assumption | omega | trivial | decide) | (intros; simp only [ZE] at *; (repeat' refine And.intro ?_ ?_) <;> first | assumption | omega | trivial)))
      | (refine And.intro (Ob.out ?_) ?_)
      | (refine WP.block ?_)
      | (refine WP.cond rfl (fun hc => ?_) (fun hc => ?_) <;> (try simp only [ZC, reduceCtorEq, ZD] at hc) <;> (try (exact absurd hc (by decide))) <;> (try (exfalso; omega)))
      | ((first | refine WP.skip ?_ | refine WP.exit ?_); simp only [SeqQ, BlkQ, LoopQ, BodyQ, ↓reduceIte, Nat.reduceEqDiff, reduceCtorEq, look, true_and])
      | (refine WP.ret (Sm.out ?_))
      | (first | refine ExG.no (Sm.out ?_) | refine Or.inl (ExG.no (Sm.out ?_)) | refine Or.inl (And.intro (fun hg => absurd hg (by decide)) (ExG.no (Sm.out ?_))))
      | (refine Rt.mk ?_; refine And.intro ?_ ?_ <;> (intro hg; first | exact absurd hg (by decide) | refine Sm.out ?_))
      | (refine Nu.mk ?_; first | (fail_if_success (have := nb1)); intro nb1 | (fail_if_success (have := nb2)); intro nb2 | (fail_if_success (have := nb3)); intro nb3 | (fail_if_success (have := nb4)); intro nb4 | (fail_if_success (have := nb5)); intro nb5 | (fail_if_success (have := nb6)); intro nb6 | intro nbz)
      | (refine Fr.mk ?_; intro hfr; replace FR := And.intro hfr FR; clear hfr; refine Sm.out ?_)
      | (refine Two.mk ?_ ?_)
      | (refine Cs.mk ?_; intro hcs; first | exact False.elim hcs | (exfalso; omega) | (refine Sm.out ?_))
      | go_step
      | omega
      | (simp only [maxLen_eq]; omega)
      | (refine Or.inr (Rt.mk ?_); refine And.intro ?_ ?_ <;> (intro hg; first | exact absurd hg (by decide) | refine Sm.out ?_))
    (refine OutQ.row (by simp only [resv, ZK, look, loadv, loadn, loadnm, load1, load1m, hget, ↓reduceIte, Nat.reduceEqDiff, Nat.reduceAdd, Nat.reduceMul, Nat.reduceLeDiff, Nat.reduceLT, reduceCtorEq, TFWiP, FR]) (by simp only [resv, resA, ZK, look, loadv, loadn, loadnm, load1, load1m, hget, ↓reduceIte, Nat.reduceEqDiff, Nat.reduceAdd, Nat.reduceMul, Nat.reduceLeDiff, Nat.reduceLT, reduceCtorEq, TFWiP, FR]; first | done | rfl) (by simp only [hget, ↓reduceIte, if_true, if_false, FR]; first | done | rfl) ?_ ?_ ?_ ?_ <;> first | omega | (simp only [maxLen_eq]; omega) | skip)
    all_goals first | omega | (rw [hp, g1]; done) | (simp [hp, ← g1]; done)
  | succ k' =>
    have k1 : decide (((k' + 1 : Nat) : Int) > 0) = true := decide_eq_true (by omega)
    have e1 : IntKind.i64.wrap (((k' + 1 : Nat) : Int) - 1) = (k' : Int) := by rw [wrap_i64 (by omega) (by omega)]; try omega
    have e2 : IntKind.i64.wrap (8 * (k' : Int)) = ((8 * k' : Nat) : Int) := by rw [wrap_i64 (by omega) (by omega)]; try omega
    have e3 : 8 * k' ≤ 64 := by omega
    have e4 : (n : Int).fdiv (2 ^ (8 * k')) = ((n / 256 ^ k' : Nat) : Int) := by
      rw [Int.fdiv_eq_ediv_of_nonneg _ (by exact Int.le_of_lt (Int.pow_pos (by omega))), show (256 : Nat) = 2 ^ 8 from rfl, ← Nat.pow_mul]
      simp
    have e5 : IntKind.u8.wrap ((n / 256 ^ k' : Nat) : Int) = ((n / 256 ^ k' % 256 : Nat) : Int) := by rw [wrap_u8_mod]; omega
    obtain ⟨acc', ha⟩ : ∃ acc', acc' = acc ++ [((n / 256 ^ k' % 256 : Nat) : Int)] := ⟨_, rfl⟩
    have e6 : acc ++ [((n / 256 ^ k' % 256 : Nat) : Int)] = acc' := ha.symm
    have e7 : acc'.length = acc.length + 1 := by rw [ha]; simp
    first | (have FRx := FR; clear FRx) | (have FR : ¬ ((1 : Nat) = 0) := Nat.one_ne_zero)
    repeat' first
      | (refine Sm.mk ?_; try simp -dsimp only [ZK, rvc, drawF, headN, pureH, stp, dvc, calleeOf, gcall, pev, eff, newB, okd, og, ogs, ogo, ogp, slv, bltv, opd, litv, strip, one, both, putE, St.put, look, gdOf, gdv, picka, pickv, pickw, binv, bini, bins, binb, binp, bina, shp, eqCells, unv, convv, nilv, faddv, addp, idxav, idxp, load1, load1m, loadn, loadnm, loadv, hget, hset, hrep, hdel, slicev, bnd, shift1, lenv, IntKind.bits, extractv, fieldv, indexv, min2v, max2v, mkiv, cellsA, fillA, buildv, stC, oneC, rowMB, intsA, plN, appE, appZ, appC, appNZ, appNC, VwL, srcC, srcZ, srcM, isBoolT, isPtrT, isSliceT, uOk, Value.oneCell', Nat.reducePow, Int.reducePow, Nat.reduceAdd, Nat.reduceMul, Nat.reduceSub, Nat.reduceLT, Nat.reduceLeDiff, Nat.reduceEqDiff, Nat.reduceBEq, Nat.reduceDiv, Nat.reduceMod, ↓reduceIte, reduceCtorEq, Int.reduceToNat, Int.reduceLT, Int.reduceLE, TFWiP, SeqQ, BlkQ, LoopQ, BodyQ, k1, e1, e2, e3, e4, e5, e6, FR])
      | (refine WP.seq fun K hK => ?_)
      | (refine WP.region (rvc_sound _ _ (Sm.out ?_)))
      | (refine WP.drawK rfl mixed (by decide +kernel) (Sm.out ?_))
      | (refine Ob.mk ?_; focus (first | assumption | omega | decide | trivial | (intro hob; simp only [hob, ZF]; done) | (intros; (repeat' refine And.intro ?_ ?_) <;> first | assumption | omega | trivial | decide) | (intros; simp only [ZE] at *; (repeat' refine And.intro ?_ ?_) <;> first | assumption | omega | trivial)))
      | (refine And.intro (Ob.out ?_) ?_)
      | (refine WP.block ?_)
      | (refine WP.cond rfl (fun hc => ?_) (fun hc => ?_) <;> (try simp only [ZC, reduceCtorEq, ZD] at hc) <;> (try (exact absurd hc (by decide))) <;> (try (exfalso; omega)))
      | ((first | refine WP.skip ?_ | refine WP.exit ?_); simp only [SeqQ, BlkQ, LoopQ, BodyQ, ↓reduceIte, Nat.reduceEqDiff, reduceCtorEq, look, true_and])
      | (refine WP.ret (Sm.out ?_))
      | (first | refine ExG.no (Sm.out ?_) | refine Or.inl (ExG.no (Sm.out ?_)) | refine Or.inl (And.intro (fun hg => absurd hg (by decide)) (ExG.no (Sm.out ?_))))
      | (refine Rt.mk ?_; refine And.intro ?_ ?_ <;> (intro hg; first | exact absurd hg (by decide) | refine Sm.out ?_))
      | (refine Nu.mk ?_; first | (fail_if_success (have := nb1)); intro nb1 | (fail_if_success (have := nb2)); intro nb2 | (fail_if_success (have := nb3)); intro nb3 | (fail_if_success (have := nb4)); intro nb4 | (fail_if_success (have := nb5)); intro nb5 | (fail_if_success (have := nb6)); intro nb6 | intro nbz)
      | (refine Fr.mk ?_; intro hfr; replace FR := And.intro hfr FR; clear hfr; refine Sm.out ?_)
      | (refine Two.mk ?_ ?_)
      | (refine Cs.mk ?_; intro hcs; first | exact False.elim hcs | (exfalso; omega) | (refine Sm.out ?_))
      | go_step
      | omega
      | (simp only [maxLen_eq]; omega)
      | (refine Or.inr (Rt.mk ?_); refine And.intro ?_ ?_ <;> (intro hg; first | exact absurd hg (by decide) | refine Sm.out ?_))
    refine ⟨⟨k', acc', nb5, nb6⟩, ⟨?_, by simp only; omega, by simp only; omega, by simp only; omega, by simp only; omega⟩, by simp only; omega, (Sub.pick (by simp [pickB, hget, hdel, FR, e7]) (by simp [look, e7]))⟩
    simp only
    rw [← g1, ha, byteL, List.append_assoc]; rfl
theorem num_ct (b0 cap0 : Nat) (zs : List Int) (n : Nat) (hz : zs.length ≤ 100000) (hc1 : zs.length ≤ cap0) (hc2 : cap0 ≤ 9223372036854775807) (hn : n < 18446744073709551616) :
    ACt Try.prog 40 [ms b0 0 zs.length cap0, nu n] [(b0, .zs .u8 zs cap0 5)] (Row .u8 5 (zs ++ putL 0 n)) := by
  refine ACt.intro Try.func40 rfl (by kernel_rfl) (by simp [Try.ntmps40]) (fun cx => ?_)
  simp only [argE, Try.ntmps40, Try.results40]
  have c1 := put_ct b0 cap0 zs 0 n hz hc1 hc2 hn
  obtain ⟨T, hT⟩ : ∃ T, T = zs ++ putL 0 n := ⟨_, rfl⟩
  rw [← hT] at c1 ⊢
  first | (have FRx := FR; clear FRx) | (have FR : ¬ ((1 : Nat) = 0) := Nat.one_ne_zero)
  repeat' first
    | (refine Sm.mk ?_; try simp -dsimp only [ZK, rvc, drawF, headN, pureH, stp, dvc, calleeOf, gcall, pev, eff, newB, okd, og, ogs, ogo, ogp, slv, bltv, opd, litv, strip, one, both, putE, St.put, look, gdOf, gdv, picka, pickv, pickw, binv, bini, bins, binb, binp, bina, shp, eqCells, unv, convv, nilv, faddv, addp, idxav, idxp, load1, load1m, loadn, loadnm, loadv, hget, hset, hrep, hdel, slicev, bnd, shift1, lenv, IntKind.bits, extractv, fieldv, indexv, min2v, max2v, mkiv, cellsA, fillA, buildv, stC, oneC, rowMB, intsA, plN, appE, appZ, appC, appNZ, appNC, VwL, srcC, srcZ, srcM, isBoolT, isPtrT, isSliceT, uOk, Value.oneCell', Nat.reducePow, Int.reducePow, Nat.reduceAdd, Nat.reduceMul, Nat.reduceSub, Nat.reduceLT, Nat.reduceLeDiff, Nat.reduceEqDiff, Nat.reduceBEq, Nat.reduceDiv, Nat.reduceMod, ↓reduceIte, reduceCtorEq, Int.reduceToNat, Int.reduceLT, Int.reduceLE, TFWiP, SeqQ, BlkQ, LoopQ, BodyQ, FR])
    | (refine CallV.row (by simp only [hget, ↓reduceIte, FR]; first | done | rfl) (c1) (Sm.out ?_))
    | (refine CallV.mkrow (c1) (Sm.out ?_))
    | (refine CallV.upd (by simp only [hget, ↓reduceIte, FR]; first | done | rfl) (c1) (Sm.out ?_))
    | (refine CallV.mkobj (c1) (Sm.out ?_))
    | (first | refine CallV.fn (c1) (Sm.out ?_) | refine ExF.mk (c1) (Sm.out ?_) | refine ExG.mk (fun _ => c1) (Sm.out ?_) | refine ExG.mkJ (fun _ => c1) (Sm.out ?_) | refine ExG.mkI (Ob.out ?_) (fun _ => c1) (Sm.out ?_))
    | (refine WP.seq fun K hK => ?_)
    | (refine WP.region (rvc_sound _ _ (Sm.out ?_)))
    | (refine WP.drawK rfl mixed (by decide +kernel) (Sm.out ?_))
    | (refine Ob.mk ?_; focus (first | assumption | omega | decide | trivial | (intro hob; simp only [hob, ZF]; done) | (intros; (repeat' refine And.intro ?_ ?_) <;> first | assumption | omega | trivial | decide) | (intros; simp only [ZE] at *; (repeat' refine And.intro ?_ ?_) <;> first | assumption | omega | trivial)))
    | (refine And.intro (Ob.out ?_) ?_)
    | (refine WP.block ?_)
    | (refine WP.cond rfl (fun hc => ?_) (fun hc => ?_) <;> (try simp only [ZC, reduceCtorEq, ZD] at hc) <;> (try (exact absurd hc (by decide))) <;> (try (exfalso; omega)))
    | ((first | refine WP.skip ?_ | refine WP.exit ?_); simp only [SeqQ, BlkQ, LoopQ, BodyQ, ↓reduceIte, Nat.reduceEqDiff, reduceCtorEq, look, true_and])
    | (refine WP.ret (Sm.out ?_))
    | (first | refine ExG.no (Sm.out ?_) | refine Or.inl (ExG.no (Sm.out ?_)) | refine Or.inl (And.intro (fun hg => absurd hg (by decide)) (ExG.no (Sm.out ?_))))
    | (refine Rt.mk ?_; refine And.intro ?_ ?_ <;> (intro hg; first | exact absurd hg (by decide) | refine Sm.out ?_))
    | (refine Nu.mk ?_; first | (fail_if_success (have := nb1)); intro nb1 | (fail_if_success (have := nb2)); intro nb2 | (fail_if_success (have := nb3)); intro nb3 | (fail_if_success (have := nb4)); intro nb4 | (fail_if_success (have := nb5)); intro nb5 | (fail_if_success (have := nb6)); intro nb6 | intro nbz)
    | (refine Fr.mk ?_; intro hfr; replace FR := And.intro hfr FR; clear hfr; refine Sm.out ?_)
    | (refine Two.mk ?_ ?_)
    | (refine Cs.mk ?_; intro hcs; first | exact False.elim hcs | (exfalso; omega) | (refine Sm.out ?_))
    | go_step
    | omega
    | (simp only [maxLen_eq]; omega)
    | (refine Or.inr (Rt.mk ?_); refine And.intro ?_ ?_ <;> (intro hg; first | exact absurd hg (by decide) | refine Sm.out ?_))
  (refine OutQ.row (by simp only [resv, ZK, look, loadv, loadn, loadnm, load1, load1m, hget, ↓reduceIte, Nat.reduceEqDiff, Nat.reduceAdd, Nat.reduceMul, Nat.reduceLeDiff, Nat.reduceLT, reduceCtorEq, TFWiP, FR]) (by simp only [resv, resA, ZK, look, loadv, loadn, loadnm, load1, load1m, hget, ↓reduceIte, Nat.reduceEqDiff, Nat.reduceAdd, Nat.reduceMul, Nat.reduceLeDiff, Nat.reduceLT, reduceCtorEq, TFWiP, FR]; first | done | rfl) (by simp only [hget, ↓reduceIte, if_true, if_false, FR]; first | done | rfl) ?_ ?_ ?_ ?_ <;> first | omega | (simp only [maxLen_eq]; omega) | skip)
  all_goals rfl
end Go.Proofs.Ytbnkmhlnoaebcaa.Wi
namespace Go.Proofs.Ytbnkmhlnoaebcaa.Wi
open Go
set_option linter.unusedVariables false
set_option linter.unusedSimpArgs false
theorem TFWiQ : (((((type_of% tyc3) ∧ (type_of% zmb3)) ∧ ((type_of% tyc4) ∧ (type_of% zmb4))) ∧ (((type_of% tyc5) ∧ (type_of% zmb5)) ∧ ((type_of% tyc41) ∧ ((type_of% zmb41) ∧ (type_of% tyc50))))) ∧ ((((type_of% elt50) ∧ (type_of% mkz50)) ∧ ((type_of% apT50) ∧ ((type_of% elk50) ∧ (type_of% zmb50)))) ∧ (((type_of% Try.underlying3) ∧ (type_of% Try.underlying4)) ∧ ((type_of% Try.underlying5) ∧ ((type_of% Try.underlying41) ∧ (type_of% Try.underlying50)))))) :=
  ⟨⟨⟨⟨tyc3, zmb3⟩, ⟨tyc4, zmb4⟩⟩, ⟨⟨tyc5, zmb5⟩, ⟨tyc41, ⟨zmb41, tyc50⟩⟩⟩⟩, ⟨⟨⟨elt50, mkz50⟩, ⟨apT50, ⟨elk50, zmb50⟩⟩⟩, ⟨⟨Try.underlying3, Try.underlying4⟩, ⟨Try.underlying5, ⟨Try.underlying41, Try.underlying50⟩⟩⟩⟩⟩
theorem size_le {n j : Nat} : (lenN n + 7) / 8 ≤ j ↔ n < 256 ^ j := by
  rw [show (256 : Nat) = 2 ^ 8 from rfl, ← Nat.pow_mul, ← lenN_le]; omega
theorem or0 : ∀ k : Nat, k < 9 → ibit .or .u8 0 (k : Int) = (k : Int) := by decide +kernel
theorem or16 : ∀ k : Nat, k < 9 → ibit .or .u8 16 (k : Int) = 16 + (k : Int) := by decide +kernel
structure NG where
  j : Nat
  b : Nat
  cap : Nat
set_option maxRecDepth 8000 in
set_option maxHeartbeats 1000000 in
theorem refNum_ct (n : Nat) (hn : n < 18446744073709551616) : ACt Try.prog 46 [nu n] [] (Row .u8 5 (putL 0 n)) := by
  refine ACt.intro Try.func46 rfl (by kernel_rfl) (by simp [Try.ntmps46]) (fun cx => ?_)
  simp only [argE, Try.ntmps46, Try.results46]
  have h1 : lenN n ≤ 64 := lenN_le.2 hn
  obtain ⟨kk, hkk⟩ : ∃ kk, kk = (lenN n + 7) / 8 := ⟨_, rfl⟩
  have hkk8 : kk ≤ 8 := by omega
  have hp : putL 0 n = (kk : Int) :: byteL n kk := by unfold putL; rw [← hkk, or0 kk (by omega)]
  first | (have FRx := FR; clear FRx) | (have FR : ¬ ((1 : Nat) = 0) := Nat.one_ne_zero)
  repeat' first
    | (refine Sm.mk ?_; try simp -dsimp only [ZK, rvc, drawF, headN, pureH, stp, dvc, calleeOf, gcall, pev, eff, newB, okd, og, ogs, ogo, ogp, slv, bltv, opd, litv, strip, one, both, putE, St.put, look, gdOf, gdv, picka, pickv, pickw, binv, bini, bins, binb, binp, bina, shp, eqCells, unv, convv, nilv, faddv, addp, idxav, idxp, load1, load1m, loadn, loadnm, loadv, hget, hset, hrep, hdel, slicev, bnd, shift1, lenv, IntKind.bits, extractv, fieldv, indexv, min2v, max2v, mkiv, cellsA, fillA, buildv, stC, oneC, rowMB, intsA, plN, appE, appZ, appC, appNZ, appNC, VwL, srcC, srcZ, srcM, isBoolT, isPtrT, isSliceT, uOk, Value.oneCell', Nat.reducePow, Int.reducePow, Nat.reduceAdd, Nat.reduceMul, Nat.reduceSub, Nat.reduceLT, Nat.reduceLeDiff, Nat.reduceEqDiff, Nat.reduceBEq, Nat.reduceDiv, Nat.reduceMod, ↓reduceIte, reduceCtorEq, Int.reduceToNat, Int.reduceLT, Int.reduceLE, TFWiQ, SeqQ, BlkQ, LoopQ, BodyQ, FR])
    | (refine WP.seq fun K hK => ?_)
    | (refine WP.region (rvc_sound _ _ (Sm.out ?_)))
    | (refine WP.drawK rfl mixed (by decide +kernel) (Sm.out ?_))
    | (refine Ob.mk ?_; focus (first | assumption | omega | decide | trivial | (intro hob; simp only [hob, ZF]; done) | (intros; (repeat' refine And.intro ?_ ?_) <;> first | assumption | omega | trivial | decide) | (intros; simp only [ZE] at *; (repeat' refine And.intro ?_ ?_) <;> first | assumption | omega | trivial)))
    | (refine And.intro (Ob.out ?_) ?_)
    | (refine WP.block ?_)
    | (refine WP.cond rfl (fun hc => ?_) (fun hc => ?_) <;> (try simp only [ZC, reduceCtorEq, ZD] at hc) <;> (try (exact absurd hc (by decide))) <;> (try (exfalso; omega)))
    | ((first | refine WP.skip ?_ | refine WP.exit ?_); simp only [SeqQ, BlkQ, LoopQ, BodyQ, ↓reduceIte, Nat.reduceEqDiff, reduceCtorEq, look, true_and])
    | (refine WP.ret (Sm.out ?_))
    | (first | refine ExG.no (Sm.out ?_) | refine Or.inl (ExG.no (Sm.out ?_)) | refine Or.inl (And.intro (fun hg => absurd hg (by decide)) (ExG.no (Sm.out ?_))))
    | (refine Rt.mk ?_; refine And.intro ?_ ?_ <;> (intro hg; first | exact absurd hg (by decide) | refine Sm.out ?_))
    | (refine Nu.mk ?_; first | (fail_if_success (have := nb1)); intro nb1 | (fail_if_success (have := nb2)); intro nb2 | (fail_if_success (have := nb3)); intro nb3 | (fail_if_success (have := nb4)); intro nb4 | intro nbz)
    | (refine Fr.mk ?_; intro hfr; replace FR := And.intro hfr FR; clear hfr; refine Sm.out ?_)
    | (refine Two.mk ?_ ?_)
    | (refine Cs.mk ?_; intro hcs; first | exact False.elim hcs | (exfalso; omega) | (refine Sm.out ?_))
    | go_step
    | omega
    | (simp only [maxLen_eq]; omega)
    | (refine Or.inr (Rt.mk ?_); refine And.intro ?_ ?_ <;> (intro hg; first | exact absurd hg (by decide) | refine Sm.out ?_))
  refine WP.loop (Γ := NG) (fun g => ⟨[(0, nu (n / 256 ^ g.j)), (3, ms g.b 0 g.j g.cap)], [(g.b, .zs .u8 (byteL n g.j) g.cap 5)]⟩)
    (fun g => g.j ≤ kk ∧ g.j ≤ g.cap ∧ g.cap ≤ 9223372036854775807) (fun g => kk - g.j) ⟨0, nb1, 0⟩
    ⟨by simp, by simp, by simp⟩ (Sub.pick (by simp [pickB, hget, hdel, FR, byteL]) (by simp [look, byteL])) ?_
  intro ⟨j, b, cap⟩ ⟨g1, g2, g3⟩
  simp only at g1 g2 g3 ⊢
  (refine WP.nd fun hnd => ?_; simp only [ndF, fresh_cons, fresh_nil, and_true, ne_eq] at hnd; replace FR := And.intro hnd FR; clear hnd)
  have hlj := byteL_len n j
  have hle : n / 256 ^ j ≤ n := Nat.div_le_self _ _
  by_cases hj : j < kk
  · have hpos : 0 < n / 256 ^ j := by
      have : ¬ (lenN n + 7) / 8 ≤ j := by omega
      rw [size_le] at this
      exact Nat.div_pos (by omega) (Nat.pow_pos (by omega))
    have k1 : decide (((n / 256 ^ j : Nat) : Int) > 0) = true := decide_eq_true (by omega)
    obtain ⟨q, hq⟩ : ∃ q, q = n / 256 ^ j := ⟨_, rfl⟩
    have hnx : byteL n (j + 1) = ((q % 256 : Nat) : Int) :: byteL n j := by rw [byteL, ← hq]
    have hdq : n / 256 ^ (j + 1) = q / 256 := by rw [hq, Nat.pow_succ, Nat.div_div_eq_div_mul]
    rw [← hq] at k1 hle ⊢
    have e1 : (q : Int).tmod 256 = ((q % 256 : Nat) : Int) := by rw [Int.tmod_eq_emod_of_nonneg (by omega)]; simp
    have e2 : IntKind.u64.wrap ((q % 256 : Nat) : Int) = ((q % 256 : Nat) : Int) := wrap_u64_nat (by omega)
    have e3 : IntKind.u8.wrap ((q % 256 : Nat) : Int) = ((q % 256 : Nat) : Int) := wrap_u8 (by omega) (by omega)
    have e4 : (q : Int).tdiv 256 = ((q / 256 : Nat) : Int) := by rw [Int.tdiv_eq_ediv_of_nonneg (by omega)]; simp
    have e5 : IntKind.u64.wrap ((q / 256 : Nat) : Int) = ((q / 256 : Nat) : Int) := wrap_u64_nat (by omega)
    obtain ⟨L, hL⟩ : ∃ L, L = byteL n j := ⟨_, rfl⟩
    rw [← hL] at hlj hnx ⊢
    have e6 : L.take j = L := List.take_of_length_le (by omega)
    have q0 : 0 + j ≤ j := by omega
    have q1 : 1 + j = j + 1 := by omega
    first | (have FRx := FR; clear FRx) | (have FR : ¬ ((1 : Nat) = 0) := Nat.one_ne_zero)
    repeat' first
      | (refine Sm.mk ?_; try simp -dsimp only [ZK, rvc, drawF, headN, pureH, stp, dvc, calleeOf, gcall, pev, eff, newB, okd, og, ogs, ogo, ogp, slv, bltv, opd, litv, strip, one, both, putE, St.put, look, gdOf, gdv, picka, pickv, pickw, binv, bini, bins, binb, binp, bina, shp, eqCells, unv, convv, nilv, faddv, addp, idxav, idxp, load1, load1m, loadn, loadnm, loadv, hget, hset, hrep, hdel, slicev, bnd, shift1, lenv, IntKind.bits, extractv, fieldv, indexv, min2v, max2v, mkiv, cellsA, fillA, buildv, stC, oneC, rowMB, intsA, plN, appE, appZ, appC, appNZ, appNC, VwL, srcC, srcZ, srcM, isBoolT, isPtrT, isSliceT, uOk, Value.oneCell', Nat.reducePow, Int.reducePow, Nat.reduceAdd, Nat.reduceMul, Nat.reduceSub, Nat.reduceLT, Nat.reduceLeDiff, Nat.reduceEqDiff, Nat.reduceBEq, Nat.reduceDiv, Nat.reduceMod, ↓reduceIte, reduceCtorEq, Int.reduceToNat, Int.reduceLT, Int.reduceLE, TFWiQ, SeqQ, BlkQ, LoopQ, BodyQ, k1, e1, e2, e3, e4, e5, e6, hlj, List.singleton_append, FR])
      | (refine WP.seq fun K hK => ?_)
      | (refine WP.region (rvc_sound _ _ (Sm.out ?_)))
      | (refine WP.drawK rfl mixed (by decide +kernel) (Sm.out ?_))
      | (refine Ob.mk ?_; focus (first | assumption | omega | decide | trivial | (intro hob; simp only [hob, ZF]; done) | (intros; (repeat' refine And.intro ?_ ?_) <;> first | assumption | omega | trivial | decide) | (intros; simp only [ZE] at *; (repeat' refine And.intro ?_ ?_) <;> first | assumption | omega | trivial)))
      | (refine And.intro (Ob.out ?_) ?_)
      | (refine WP.block ?_)
      | (refine WP.cond rfl (fun hc => ?_) (fun hc => ?_) <;> (try simp only [ZC, reduceCtorEq, ZD] at hc) <;> (try (exact absurd hc (by decide))) <;> (try (exfalso; omega)))
      | ((first | refine WP.skip ?_ | refine WP.exit ?_); simp only [SeqQ, BlkQ, LoopQ, BodyQ, ↓reduceIte, Nat.reduceEqDiff, reduceCtorEq, look, true_and])
      | (refine WP.ret (Sm.out ?_))
      | (first | refine ExG.no (Sm.out ?_) | refine Or.inl (ExG.no (Sm.out ?_)) | refine Or.inl (And.intro (fun hg => absurd hg (by decide)) (ExG.no (Sm.out ?_))))
      | (refine Rt.mk ?_; refine And.intro ?_ ?_ <;> (intro hg; first | exact absurd hg (by decide) | refine Sm.out ?_))
      | (refine Nu.mk ?_; first | (fail_if_success (have := nb1)); intro nb1 | (fail_if_success (have := nb2)); intro nb2 | (fail_if_success (have := nb3)); intro nb3 | (fail_if_success (have := nb4)); intro nb4 | intro nbz)
      | (refine Fr.mk ?_; intro hfr; replace FR := And.intro hfr FR; clear hfr; refine Sm.out ?_)
      | (refine Two.mk ?_ ?_)
      | (refine Cs.mk ?_; intro hcs; first | exact False.elim hcs | (exfalso; omega) | (refine Sm.out ?_))
      | go_step
      | omega
      | (simp only [maxLen_eq]; omega)
      | (refine Or.inr (Rt.mk ?_); refine And.intro ?_ ?_ <;> (intro hg; first | exact absurd hg (by decide) | refine Sm.out ?_))
    exact ⟨⟨j + 1, nb3, nb4⟩, ⟨by simp only; omega, by simp only; omega, by simp only; omega⟩, by simp only; omega, (Sub.pick (by simp [pickB, hget, hdel, FR, hdq, hnx, q1]) (by simp [look, hdq, hnx, q1]))⟩
  · obtain rfl : j = kk := by omega
    have hz : n / 256 ^ j = 0 := by
      have := size_le.1 (Nat.le_of_eq hkk.symm)
      exact Nat.div_eq_of_lt this
    have k1 : decide (((n / 256 ^ j : Nat) : Int) > 0) = false := by rw [hz]; rfl
    obtain ⟨L, hL⟩ : ∃ L, L = byteL n j := ⟨_, rfl⟩
    rw [← hL] at hlj hp ⊢
    have e6 : L.take j = L := List.take_of_length_le (by omega)
    have w1 : IntKind.u8.wrap (j : Int) = (j : Int) := wrap_u8 (by omega) (by omega)
    have lp : (putL 0 n).length = 1 + j := by rw [hp]; simp [hlj]; omega
    first | (have FRx := FR; clear FRx) | (have FR : ¬ ((1 : Nat) = 0) := Nat.one_ne_zero)
    repeat' first
      | (refine Sm.mk ?_; try simp -dsimp only [ZK, rvc, drawF, headN, pureH, stp, dvc, calleeOf, gcall, pev, eff, newB, okd, og, ogs, ogo, ogp, slv, bltv, opd, litv, strip, one, both, putE, St.put, look, gdOf, gdv, picka, pickv, pickw, binv, bini, bins, binb, binp, bina, shp, eqCells, unv, convv, nilv, faddv, addp, idxav, idxp, load1, load1m, loadn, loadnm, loadv, hget, hset, hrep, hdel, slicev, bnd, shift1, lenv, IntKind.bits, extractv, fieldv, indexv, min2v, max2v, mkiv, cellsA, fillA, buildv, stC, oneC, rowMB, intsA, plN, appE, appZ, appC, appNZ, appNC, VwL, srcC, srcZ, srcM, isBoolT, isPtrT, isSliceT, uOk, Value.oneCell', Nat.reducePow, Int.reducePow, Nat.reduceAdd, Nat.reduceMul, Nat.reduceSub, Nat.reduceLT, Nat.reduceLeDiff, Nat.reduceEqDiff, Nat.reduceBEq, Nat.reduceDiv, Nat.reduceMod, ↓reduceIte, reduceCtorEq, Int.reduceToNat, Int.reduceLT, Int.reduceLE, TFWiQ, SeqQ, BlkQ, LoopQ, BodyQ, k1, e6, w1, hlj, List.singleton_append, FR])
      | (refine WP.seq fun K hK => ?_)
      | (refine WP.region (rvc_sound _ _ (Sm.out ?_)))
      | (refine WP.drawK rfl mixed (by decide +kernel) (Sm.out ?_))
      | (refine Ob.mk ?_; focus (first | assumption | omega | decide | trivial | (intro hob; simp only [hob, ZF]; done) | (intros; (repeat' refine And.intro ?_ ?_) <;> first | assumption | omega | trivial | decide) | (intros; simp only [ZE] at *; (repeat' refine And.intro ?_ ?_) <;> first | assumption | omega | trivial)))
      | (refine And.intro (Ob.out ?_) ?_)
      | (refine WP.block ?_)
      | (refine WP.cond rfl (fun hc => ?_) (fun hc => ?_) <;> (try simp only [ZC, reduceCtorEq, ZD] at hc) <;> (try (exact absurd hc (by decide))) <;> (try (exfalso; omega)))
      | ((first | refine WP.skip ?_ | refine WP.exit ?_); simp only [SeqQ, BlkQ, LoopQ, BodyQ, ↓reduceIte, Nat.reduceEqDiff, reduceCtorEq, look, true_and])
      | (refine WP.ret (Sm.out ?_))
      | (first | refine ExG.no (Sm.out ?_) | refine Or.inl (ExG.no (Sm.out ?_)) | refine Or.inl (And.intro (fun hg => absurd hg (by decide)) (ExG.no (Sm.out ?_))))
      | (refine Rt.mk ?_; refine And.intro ?_ ?_ <;> (intro hg; first | exact absurd hg (by decide) | refine Sm.out ?_))
      | (refine Nu.mk ?_; first | (fail_if_success (have := nb1)); intro nb1 | (fail_if_success (have := nb2)); intro nb2 | (fail_if_success (have := nb3)); intro nb3 | (fail_if_success (have := nb4)); intro nb4 | intro nbz)
      | (refine Fr.mk ?_; intro hfr; replace FR := And.intro hfr FR; clear hfr; refine Sm.out ?_)
      | (refine Two.mk ?_ ?_)
      | (refine Cs.mk ?_; intro hcs; first | exact False.elim hcs | (exfalso; omega) | (refine Sm.out ?_))
      | go_step
      | omega
      | (simp only [maxLen_eq]; omega)
      | (refine Or.inr (Rt.mk ?_); refine And.intro ?_ ?_ <;> (intro hg; first | exact absurd hg (by decide) | refine Sm.out ?_))
    (refine OutQ.row (by simp only [resv, ZK, look, loadv, loadn, loadnm, load1, load1m, hget, ↓reduceIte, Nat.reduceEqDiff, Nat.reduceAdd, Nat.reduceMul, Nat.reduceLeDiff, Nat.reduceLT, reduceCtorEq, TFWiQ, FR]) (by simp only [resv, resA, ZK, look, loadv, loadn, loadnm, load1, load1m, hget, ↓reduceIte, Nat.reduceEqDiff, Nat.reduceAdd, Nat.reduceMul, Nat.reduceLeDiff, Nat.reduceLT, reduceCtorEq, TFWiQ, FR]; first | done | rfl) (by simp only [hget, ↓reduceIte, if_true, if_false, FR]; first | done | rfl) ?_ ?_ ?_ ?_ <;> first | omega | (simp only [maxLen_eq]; omega) | skip)
    all_goals first | omega | (rw [hp]; done) | (rw [lp]; done) | (simp [hp, hlj]; done) | (simp [hp, hlj]; omega)
end Go.Proofs.Ytbnkmhlnoaebcaa.Wi
