/-
  The two rings say the same.
-/
import Derived.Test.YtbnkmhlnoaebcaaRgQ
import Derived.Test.YtbnkmhlnoaebcaaRgRA
namespace Go.Proofs.Ytbnkmhlnoaebcaa
open Go
set_option linter.unusedVariables false
set_option linter.unusedSimpArgs false

/-- what is read of both -/
theorem sum_d (mb W G k w n : Nat) (s : RS) (h : Inv w k n s) (hn : n ≤ 1000) (hg : goP W G) (hgo : GoOk W G k w) (hmb : ∀ p ∈ evB s.E s.o, p.1 ≠ mb) :
    ACt Try.prog 18 [pt mb 0] ((mb, mM W G s.now (evL s.E s.o)) :: evB s.E s.o) (fun r F' => r = cnt (sG (winP s.now w k) s.E) (sT (winP s.now w k) s.E) ∧ F' = (mb, mM W G s.now (evL s.E s.o)) :: evB s.E s.o) := by
  have hs := h.sum
  have h0 := h.now
  have hl := h.len
  have hgs : sG (winP s.now w k) s.E ≤ sT (winP s.now w k) s.E := sG_le_sT h.gt
  exact look_m (rs := []) (refSum_ct W G k w s.now s.E hg hgo h0 (fun e he => Nat.le_trans (h.at_ e he) h0) (by omega) (Nat.lt_of_le_of_lt (Nat.le_trans hgs hs) (by omega)) (Nat.lt_of_le_of_lt hs (by omega))) rfl h.ok hmb
theorem list_d (mb W G k w n : Nat) (s : RS) (h : Inv w k n s) (hn : n ≤ 1000) (hg : goP W G) (hgo : GoOk W G k w) (hmb : ∀ p ∈ evB s.E s.o, p.1 ≠ mb) :
    ACt Try.prog 32 [pt mb 0] ((mb, mM W G s.now (evL s.E s.o)) :: evB s.E s.o) (fun r F' => r = .sl k (lC k (bkA (slG (s.now / w) w k s.E) k (s.now / w)) (bkA (slT (s.now / w) w k s.E) k (s.now / w))) ∧ F' = (mb, mM W G s.now (evL s.E s.o)) :: evB s.E s.o) := by
  have hs := h.sum
  have h0 := h.now
  have hl := h.len
  have hk1 := hgo.k1
  have hgs : sG (winP s.now w k) s.E ≤ sT (winP s.now w k) s.E := sG_le_sT h.gt
  have hE : ∀ e ∈ s.E, e.at_ / w ≤ s.now / w := fun e he => Nat.div_le_div_right (h.at_ e he)
  have rG := rowG (k := k) hk1 hE
  have rT := rowT (k := k) hk1 hE
  have bT : ∀ i, i < k → sT (pB (((s.now / w : Nat) : Int) - k + 1 + i) w) s.E ≤ sT (winP s.now w k) s.E := fun i hi => by
    refine sT_mono fun e he hp => ?_
    unfold pB at hp
    unfold winP
    simp only [Bool.and_eq_true, decide_eq_true_eq] at hp ⊢
    omega
  have bG : ∀ i, i < k → sG (pB (((s.now / w : Nat) : Int) - k + 1 + i) w) s.E ≤ sT (winP s.now w k) s.E := fun i hi => Nat.le_trans (sG_le_sT h.gt) (bT i hi)
  have cK : ∀ i : Nat, i < k → ACt Try.prog 47 [pt mb 0, iv .i64 (((s.now / w : Nat) : Int) - k + 1 + i)] ((mb, mM W G s.now (evL s.E s.o)) :: evB s.E s.o) (fun r F' => r = cnt (bkA (slG (s.now / w) w k s.E) k (s.now / w) i) (bkA (slT (s.now / w) w k s.E) k (s.now / w) i) ∧ F' = (mb, mM W G s.now (evL s.E s.o)) :: evB s.E s.o) := fun i hi => by
    have c := refBucket_ct W G k w s.now (((s.now / w : Nat) : Int) - k + 1 + i) s.E hg hgo (fun e he => Nat.le_trans (h.at_ e he) h0) (by omega) (Nat.lt_of_le_of_lt (Nat.le_trans (bG i hi) hs) (by omega)) (Nat.lt_of_le_of_lt (Nat.le_trans (bT i hi) hs) (by omega))
    rw [← rG i hi, ← rT i hi] at c
    exact look_m (rs := [_]) c rfl h.ok hmb
  obtain ⟨o, ho⟩ : ∃ o, o = s.o := ⟨_, rfl⟩
  rw [← ho] at cK hmb ⊢
  cases o with
  | none => exact refList_n mb W G k w s.now _ _ _ _ hg hgo rfl h0 cK
  | some p =>
    have hb := hmb (p.1, .cells (evC s.E) (p.2 * 3) 70) (by simp [evB])
    exact refList_s mb p.1 W G k w s.now _ _ _ _ _ hg hgo rfl h0 ⟨Ne.symm hb, hb⟩ cK
theorem pmz {α : Type} (H : List α) : H.Perm (H ++ []) := by rw [List.append_nil]
theorem pmy {α : Type} (x y z : α) (T : List α) : ([x, y, z] ++ T).Perm ((z :: T) ++ [x, y]) :=
  List.perm_append_comm (l₁ := [x, y])
set_option maxRecDepth 8000 in
set_option maxHeartbeats 2000000 in
theorem same_ct (rb lb mb W G k w n : Nat) (s : RS) (h : Inv w k n s) (hn : n ≤ 1000) (hg : goP W G) (hgo : GoOk W G k w) (hmb : ∀ p ∈ evB s.E s.o, p.1 ≠ mb) (hne : (rb ≠ lb ∧ lb ≠ rb) ∧ (rb ≠ mb ∧ mb ≠ rb) ∧ lb ≠ mb ∧ mb ≠ lb) :
    ACt Try.prog 15 [pt rb 0, pt mb 0] (blk rb lb mb W G w k s) (fun r F' => r = bv true ∧ F' = blk rb lb mb W G w k s) := by
  refine ACt.intro Try.func15 rfl (by kernel_rfl) (by simp [Try.ntmps15]) (fun cx => ?_)
  simp only [argE, Try.ntmps15, Try.results15]
  have hk1 := hgo.k1
  have hk2 := hgo.k2
  have h0 := h.now
  have hq : s.now / w ≤ s.now := Nat.div_le_self _ _
  have c1 := sum_d mb W G k w n s h hn hg hgo hmb
  have c2 := list_d mb W G k w n s h hn hg hgo hmb
  have c3 := sum_ct rb lb w k (s.now / w) s.now (sG (winP s.now w k) s.E) (sT (winP s.now w k) s.E)
  have c4 := now_ct rb lb w k (s.now / w) s.now (sG (winP s.now w k) s.E) (sT (winP s.now w k) s.E)
  have c5 := Buckets_row rb lb w k (s.now / w) s.now (sG (winP s.now w k) s.E) (sT (winP s.now w k) s.E) (slG (s.now / w) w k s.E) (slT (s.now / w) w k s.E) hne.1 hk1 hk2 (by omega)
  have c6 := Same_ct k (bkA (slG (s.now / w) w k s.E) k (s.now / w)) (bkA (slT (s.now / w) w k s.E) k (s.now / w)) (by omega)
  unfold blk
  simp only [R1, L1] at *
  obtain ⟨C, hC⟩ : ∃ C, C = lC k (bkA (slG (s.now / w) w k s.E) k (s.now / w)) (bkA (slT (s.now / w) w k s.E) k (s.now / w)) := ⟨_, rfl⟩
  rw [← hC] at c2 c5 c6
  obtain ⟨LB, hLB⟩ : ∃ LB, LB = lbM k (slG (s.now / w) w k s.E) (slT (s.now / w) w k s.E) := ⟨_, rfl⟩
  rw [← hLB] at c5 ⊢
  obtain ⟨A, hA⟩ : ∃ A, A = sG (winP s.now w k) s.E := ⟨_, rfl⟩
  obtain ⟨B, hB⟩ : ∃ B, B = sT (winP s.now w k) s.E := ⟨_, rfl⟩
  obtain ⟨ne, hnn⟩ : ∃ ne, ne = s.now / w := ⟨_, rfl⟩
  rw [← hA, ← hB] at c1
  rw [← hA, ← hB, ← hnn] at c3 c4 c5 ⊢
  obtain ⟨LV, hLV⟩ : ∃ LV, LV = evL s.E s.o := ⟨_, rfl⟩
  obtain ⟨EB, hEB⟩ : ∃ EB, EB = evB s.E s.o := ⟨_, rfl⟩
  rw [← hLV, ← hEB] at c1 c2 ⊢
  obtain ⟨now, hnow⟩ : ∃ now, now = s.now := ⟨_, rfl⟩
  rw [← hnow] at c1 c2 c3 c4 c5 ⊢
  clear hC hLB hA hB hnn hLV hEB hnow hmb h hq h0
  simp only [List.cons_append, List.nil_append]
  have z1 : ((now : Int) == (now : Int)) = true := beq_self_eq_true _
  have z2 : ((A : Int) == (A : Int)) = true := beq_self_eq_true _
  have z3 : ((B : Int) == (B : Int)) = true := beq_self_eq_true _
  first | (have FRx := FR; clear FRx) | (have FR : ¬ ((1 : Nat) = 0) := Nat.one_ne_zero)
  repeat' first
    | (refine Sm.mk ?_; try simp -dsimp only [rvc, drawF, headN, pureH, maxLen_eq, stp, dvc, calleeOf, gcall, pev, eff, newB, okd, og, ogs, ogo, ogp, slv, bltv, opd, litv, strip, one, both, putE, St.put, look, gdOf, gdv, picka, pickv, pickw, binv, bini, bins, binb, binp, bina, shp, eqCells, unv, convv, nilv, faddv, addp, idxav, idxp, load1, load1m, loadn, loadnm, loadv, hget, hset, hrep, hdel, slicev, List.length_append, bnd, shift1, lenv, IntKind.bits, Nat.reducePow, Int.reducePow, Nat.min_def, extractv, fieldv, indexv, min2v, max2v, mkiv, cellsA, fillA, buildv, stC, oneC, rowMB, intsA, plN, appE, appZ, appC, appNZ, appNC, repA_one, VwL, srcC, srcZ, srcM, fresh_nil, fresh_cons, freshBut_nil, freshBut_cons, intsA_map, ne_eq, true_implies, forall_const, List.length_map, List.map_append, drop_getD0, Int.toNat_natCast, List.length_drop, List.length_take, Int.cast_ofNat_Int, isBoolT, isPtrT, isSliceT, uOk, List.size_toArray, List.length_cons, List.length_nil, List.getElem?_toArray, List.getElem?_cons_zero, List.getElem?_cons_succ, Option.bind_some, Option.map_some, Option.map_none, Option.isSome_some, Nat.reduceAdd, Nat.reduceMul, Nat.reduceSub, Nat.reduceLT, Nat.reduceLeDiff, Nat.reduceEqDiff, Nat.reduceBEq, Nat.reduceDiv, Nat.reduceMod, ↓reduceIte, reduceCtorEq, if_true, if_false, true_and, and_true, ite_true, ite_false, Bool.true_and, Bool.and_true, Bool.not_true, Bool.not_false, Bool.or_false, Bool.false_or, Bool.true_or, Bool.or_true, Bool.false_and, Bool.and_false, List.map_cons, List.map_nil, List.mem_cons, List.not_mem_nil, or_false, false_or, true_or, or_true, forall_eq_or_imp, forall_eq, List.all_cons, List.all_nil, List.append_nil, List.nil_append, List.cons_append, List.getD_cons_zero, List.getD_cons_succ, List.take_succ_cons, List.take_zero, List.drop_succ_cons, List.drop_zero, List.set_cons_zero, List.set_cons_succ, List.replicate_succ, List.replicate_zero, Value.oneCell', Nat.add_zero, Nat.zero_add, Nat.mul_one, Nat.one_mul, Int.toNat_zero, Int.reduceToNat, Int.reduceLT, Int.reduceLE, Nat.le_refl, Int.le_refl, Option.some.injEq, TypeDesc.slice.injEq, TypeDesc.int.injEq, List.length_replicate, TypeDesc.pointer.injEq, exists_eq, exists_eq_left, exists_eq_left', exists_eq', implies_true, beq_true, beq_false, and_self, beq_self_eq_true, bne_self_eq_false, decide_true, decide_false, cond_true, cond_false, Bool.not_eq_true', Bool.not_eq_false', imp_self, Bool.cond_false_right, Bool.cond_true_right, Bool.cond_true_left, Bool.cond_false_left, tyc0, tyc2, zmb2, tyc4, zmb4, tyc26, mth26_30, mth26_39, mth26_38, con26, zmb26, tyc32, elt32, mkz32, mkc32, apT32, elk32, zmb32, tyc35, zmb35, tyc38, foff38_0, fpart38_0, foff38_1, fpart38_1, foff38_2, fpart38_2, foff38_3, fpart38_3, zmb38, bldT38, tyc43, foff43_0, fpart43_0, foff43_1, fpart43_1, fe43, zmb43, bldT43, Try.underlying0, Try.underlying2, Try.underlying4, Try.underlying26, Try.underlying32, Try.underlying35, Try.underlying38, Try.underlying43, SeqQ, BlkQ, LoopQ, BodyQ, z1, z2, z3, fe43, hne, FR])
    | (refine CallV.updN (perm1 (by simp only [hget, hdel, ↓reduceIte, if_true, if_false, FR, z1, z2, z3, fe43, hne]; first | done | rfl)) (c3) (Sm.out ?_))
    | (refine ExF.on (DCt.updN (perm1 (by simp only [hget, hdel, ↓reduceIte, if_true, if_false, FR, z1, z2, z3, fe43, hne]; first | done | rfl)) (c3)) (Sm.out ?_))
    | (refine ExG.on (fun hg => DCt.updN (perm1 (by simp only [hget, hdel, ↓reduceIte, if_true, if_false, FR, z1, z2, z3, fe43, hne]; first | done | rfl)) (c3)) (Sm.out ?_))
    | (refine Or.inl (And.intro ?_ (ExG.on (fun hg => DCt.updN (perm1 (by simp only [hget, hdel, ↓reduceIte, if_true, if_false, FR, z1, z2, z3, fe43, hne]; first | done | rfl)) (c3)) (Sm.out ?_))); focus (first | omega | assumption | decide | trivial | (intros; (repeat' refine And.intro ?_ ?_) <;> first | assumption | omega | trivial | decide) | (intros; simp only [decide_eq_true_eq, decide_eq_false_iff_not, Bool.and_eq_true, Bool.or_eq_true, Bool.and_eq_false_iff, Bool.or_eq_false_iff, bne_iff_ne, bne_eq_false_iff_eq, Bool.not_eq_true', Bool.not_eq_false', Int.not_lt, Int.not_le] at *; (repeat' refine And.intro ?_ ?_) <;> first | assumption | omega | trivial)))
    | (refine Or.inl (ExG.on (fun hg => DCt.updN (perm1 (by simp only [hget, hdel, ↓reduceIte, if_true, if_false, FR, z1, z2, z3, fe43, hne]; first | done | rfl)) (c3)) (Sm.out ?_)))
    | (refine CallV.updN (pmy _ _ _ _) (c1) (Sm.out ?_))
    | (refine ExF.on (DCt.updN (pmy _ _ _ _) (c1)) (Sm.out ?_))
    | (refine ExG.on (fun hg => DCt.updN (pmy _ _ _ _) (c1)) (Sm.out ?_))
    | (refine Or.inl (And.intro ?_ (ExG.on (fun hg => DCt.updN (pmy _ _ _ _) (c1)) (Sm.out ?_))); focus (first | omega | assumption | decide | trivial | (intros; (repeat' refine And.intro ?_ ?_) <;> first | assumption | omega | trivial | decide) | (intros; simp only [decide_eq_true_eq, decide_eq_false_iff_not, Bool.and_eq_true, Bool.or_eq_true, Bool.and_eq_false_iff, Bool.or_eq_false_iff, bne_iff_ne, bne_eq_false_iff_eq, Bool.not_eq_true', Bool.not_eq_false', Int.not_lt, Int.not_le] at *; (repeat' refine And.intro ?_ ?_) <;> first | assumption | omega | trivial)))
    | (refine Or.inl (ExG.on (fun hg => DCt.updN (pmy _ _ _ _) (c1)) (Sm.out ?_)))
    | (refine CallV.updN (perm1 (by simp only [hget, hdel, ↓reduceIte, if_true, if_false, FR, z1, z2, z3, fe43, hne]; first | done | rfl)) (c4) (Sm.out ?_))
    | (refine ExF.on (DCt.updN (perm1 (by simp only [hget, hdel, ↓reduceIte, if_true, if_false, FR, z1, z2, z3, fe43, hne]; first | done | rfl)) (c4)) (Sm.out ?_))
    | (refine ExG.on (fun hg => DCt.updN (perm1 (by simp only [hget, hdel, ↓reduceIte, if_true, if_false, FR, z1, z2, z3, fe43, hne]; first | done | rfl)) (c4)) (Sm.out ?_))
    | (refine Or.inl (And.intro ?_ (ExG.on (fun hg => DCt.updN (perm1 (by simp only [hget, hdel, ↓reduceIte, if_true, if_false, FR, z1, z2, z3, fe43, hne]; first | done | rfl)) (c4)) (Sm.out ?_))); focus (first | omega | assumption | decide | trivial | (intros; (repeat' refine And.intro ?_ ?_) <;> first | assumption | omega | trivial | decide) | (intros; simp only [decide_eq_true_eq, decide_eq_false_iff_not, Bool.and_eq_true, Bool.or_eq_true, Bool.and_eq_false_iff, Bool.or_eq_false_iff, bne_iff_ne, bne_eq_false_iff_eq, Bool.not_eq_true', Bool.not_eq_false', Int.not_lt, Int.not_le] at *; (repeat' refine And.intro ?_ ?_) <;> first | assumption | omega | trivial)))
    | (refine Or.inl (ExG.on (fun hg => DCt.updN (perm1 (by simp only [hget, hdel, ↓reduceIte, if_true, if_false, FR, z1, z2, z3, fe43, hne]; first | done | rfl)) (c4)) (Sm.out ?_)))
    | (refine CallV.updN (perm2 (by simp only [hget, hdel, ↓reduceIte, if_true, if_false, FR, z1, z2, z3, fe43, hne]; first | done | rfl) (by simp only [hget, hdel, ↓reduceIte, if_true, if_false, FR, z1, z2, z3, fe43, hne]; first | done | rfl)) (c5) (Sm.out ?_))
    | (refine ExF.on (DCt.updN (perm2 (by simp only [hget, hdel, ↓reduceIte, if_true, if_false, FR, z1, z2, z3, fe43, hne]; first | done | rfl) (by simp only [hget, hdel, ↓reduceIte, if_true, if_false, FR, z1, z2, z3, fe43, hne]; first | done | rfl)) (c5)) (Sm.out ?_))
    | (refine ExG.on (fun hg => DCt.updN (perm2 (by simp only [hget, hdel, ↓reduceIte, if_true, if_false, FR, z1, z2, z3, fe43, hne]; first | done | rfl) (by simp only [hget, hdel, ↓reduceIte, if_true, if_false, FR, z1, z2, z3, fe43, hne]; first | done | rfl)) (c5)) (Sm.out ?_))
    | (refine Or.inl (And.intro ?_ (ExG.on (fun hg => DCt.updN (perm2 (by simp only [hget, hdel, ↓reduceIte, if_true, if_false, FR, z1, z2, z3, fe43, hne]; first | done | rfl) (by simp only [hget, hdel, ↓reduceIte, if_true, if_false, FR, z1, z2, z3, fe43, hne]; first | done | rfl)) (c5)) (Sm.out ?_))); focus (first | omega | assumption | decide | trivial | (intros; (repeat' refine And.intro ?_ ?_) <;> first | assumption | omega | trivial | decide) | (intros; simp only [decide_eq_true_eq, decide_eq_false_iff_not, Bool.and_eq_true, Bool.or_eq_true, Bool.and_eq_false_iff, Bool.or_eq_false_iff, bne_iff_ne, bne_eq_false_iff_eq, Bool.not_eq_true', Bool.not_eq_false', Int.not_lt, Int.not_le] at *; (repeat' refine And.intro ?_ ?_) <;> first | assumption | omega | trivial)))
    | (refine Or.inl (ExG.on (fun hg => DCt.updN (perm2 (by simp only [hget, hdel, ↓reduceIte, if_true, if_false, FR, z1, z2, z3, fe43, hne]; first | done | rfl) (by simp only [hget, hdel, ↓reduceIte, if_true, if_false, FR, z1, z2, z3, fe43, hne]; first | done | rfl)) (c5)) (Sm.out ?_)))
    | (refine CallV.updN (pmy _ _ _ _) (c2) (Sm.out ?_))
    | (refine ExF.on (DCt.updN (pmy _ _ _ _) (c2)) (Sm.out ?_))
    | (refine ExG.on (fun hg => DCt.updN (pmy _ _ _ _) (c2)) (Sm.out ?_))
    | (refine Or.inl (And.intro ?_ (ExG.on (fun hg => DCt.updN (pmy _ _ _ _) (c2)) (Sm.out ?_))); focus (first | omega | assumption | decide | trivial | (intros; (repeat' refine And.intro ?_ ?_) <;> first | assumption | omega | trivial | decide) | (intros; simp only [decide_eq_true_eq, decide_eq_false_iff_not, Bool.and_eq_true, Bool.or_eq_true, Bool.and_eq_false_iff, Bool.or_eq_false_iff, bne_iff_ne, bne_eq_false_iff_eq, Bool.not_eq_true', Bool.not_eq_false', Int.not_lt, Int.not_le] at *; (repeat' refine And.intro ?_ ?_) <;> first | assumption | omega | trivial)))
    | (refine Or.inl (ExG.on (fun hg => DCt.updN (pmy _ _ _ _) (c2)) (Sm.out ?_)))
    | (refine CallV.fn (c6) (Sm.out ?_))
    | (refine ExF.mk (c6) (Sm.out ?_))
    | (refine ExG.mk (fun hg => c6) (Sm.out ?_))
    | (refine Or.inl (ExG.mk (fun hg => c6) (Sm.out ?_)))
    | (refine Or.inl (And.intro ?_ (ExG.mk (fun hg => c6) (Sm.out ?_))); focus (first | omega | assumption | decide | trivial | (intros; (repeat' refine And.intro ?_ ?_) <;> first | assumption | omega | trivial | decide) | (intros; simp only [decide_eq_true_eq, decide_eq_false_iff_not, Bool.and_eq_true, Bool.or_eq_true, Bool.and_eq_false_iff, Bool.or_eq_false_iff, bne_iff_ne, bne_eq_false_iff_eq, Bool.not_eq_true', Bool.not_eq_false', Int.not_lt, Int.not_le] at *; (repeat' refine And.intro ?_ ?_) <;> first | assumption | omega | trivial)))
    | (refine WP.seq fun K hK => ?_)
    | (refine WP.region (rvc_sound _ _ (Sm.out ?_)))
    | (refine WP.drawK rfl mixed (by decide +kernel) (Sm.out ?_))
    | (refine And.intro ?_ ?_; focus (first | assumption | omega | decide | trivial | (intro hob; simp only [hob, Bool.not_eq_true', Bool.not_eq_false', Bool.not_false, Bool.not_true, Bool.true_and, Bool.and_true, Bool.false_and, Bool.and_false, true_and, and_true, imp_self, implies_true, and_self]; done) | (intros; (repeat' refine And.intro ?_ ?_) <;> first | assumption | omega | trivial | decide) | (intros; simp only [decide_eq_true_eq, decide_eq_false_iff_not, Bool.and_eq_true, Bool.or_eq_true, Bool.and_eq_false_iff, Bool.or_eq_false_iff, bne_iff_ne, bne_eq_false_iff_eq, Bool.not_eq_true', Bool.not_eq_false', Int.not_lt, Int.not_le] at *; (repeat' refine And.intro ?_ ?_) <;> first | assumption | omega | trivial)))
    | (refine WP.block ?_)
    | (refine WP.cond rfl (fun hc => ?_) (fun hc => ?_) <;> (try simp only [decide_eq_true_eq, decide_eq_false_iff_not, Bool.and_eq_true, Bool.or_eq_true, Bool.and_eq_false_iff, Bool.or_eq_false_iff, Bool.not_eq_true', Bool.not_eq_false', Int.not_lt, Int.not_le, reduceCtorEq, false_and, and_false, false_or, or_false, true_and, and_true, true_or, or_true, not_true_eq_false, not_false_eq_true, beq_iff_eq, beq_eq_false_iff_ne, bne_iff_ne, bne_eq_false_iff_eq, ne_eq, Decidable.not_not] at hc) <;> (try (exact absurd hc (by decide))) <;> (try (exfalso; omega)))
    | (refine WP.skip ?_; simp only [SeqQ, BlkQ, LoopQ, BodyQ, ↓reduceIte, Nat.reduceEqDiff, reduceCtorEq, look, true_and])
    | (refine WP.exit ?_; simp only [SeqQ, BlkQ, LoopQ, BodyQ, ↓reduceIte, Nat.reduceEqDiff, reduceCtorEq, look, true_and])
    | (refine WP.ret (Sm.out ?_))
    | (refine ExG.mk (x := AV.any) (fun hg => absurd hg (by decide)) (Sm.out ?_))
    | (refine Or.inl (ExG.mk (x := AV.any) (fun hg => absurd hg (by decide)) (Sm.out ?_)))
    | (refine Or.inl (And.intro (fun hg => absurd hg (by decide)) (ExG.mk (x := AV.any) (fun hg => absurd hg (by decide)) (Sm.out ?_))))
    | (refine Rt.mk ?_; refine And.intro ?_ ?_ <;> (intro hg; first | exact absurd hg (by decide) | refine Sm.out ?_))
    | (refine Nu.mk ?_; first | ((fail_if_success (have hx := nb1)); intro nb1) | ((fail_if_success (have hx := nb2)); intro nb2) | ((fail_if_success (have hx := nb3)); intro nb3) | ((fail_if_success (have hx := nb4)); intro nb4) | ((fail_if_success (have hx := nb5)); intro nb5) | ((fail_if_success (have hx := nb6)); intro nb6) | ((fail_if_success (have hx := nb7)); intro nb7) | ((fail_if_success (have hx := nb8)); intro nb8) | ((fail_if_success (have hx := nb9)); intro nb9) | ((fail_if_success (have hx := nb10)); intro nb10) | ((fail_if_success (have hx := nb11)); intro nb11) | ((fail_if_success (have hx := nb12)); intro nb12) | ((fail_if_success (have hx := nb13)); intro nb13) | ((fail_if_success (have hx := nb14)); intro nb14))
    | (refine Fr.mk ?_; intro hfr; replace FR := And.intro hfr FR; clear hfr; refine Sm.out ?_)
    | (refine Two.mk ?_ ?_)
    | (refine Cs.mk ?_; intro hcs; first | exact False.elim hcs | (exfalso; omega) | (refine Sm.out ?_))
    | (refine (show VwL _ _ _ from ?_); simp only [VwL, and_true, true_and])
    | exact Vw.same _
    | (refine Vw.row' (by simp only [hget, ↓reduceIte, if_true, if_false, FR, z1, z2, z3, fe43, hne]; first | done | rfl) ?_ ?_ ?_ ?_)
    | (refine And.intro (Vw.same _) ?_)
    | (refine And.intro (Vw.row' (by simp only [hget, ↓reduceIte, if_true, if_false, FR, z1, z2, z3, fe43, hne]; first | done | rfl) ?_ ?_ ?_ ?_) ?_)
    | go_step
    | omega
    | (simp only [maxLen_eq]; omega)
  (refine OutQ.drop _ _ (pmz _) (by simp only [resv, look, loadv, loadn, loadnm, load1, load1m, hget, maxLen_eq, ↓reduceIte, if_true, if_false, ite_true, ite_false, Nat.reduceEqDiff, Nat.reduceAdd, Nat.reduceMul, Nat.reduceLeDiff, Nat.reduceLT, reduceCtorEq, true_and, and_true, and_self, List.length_cons, List.length_nil, List.length_map, List.length_replicate, List.take_succ_cons, List.take_zero, List.drop_zero, List.drop_succ_cons, List.map_cons, List.map_nil, List.getD_cons_zero, List.getD_cons_succ, Nat.zero_add, Nat.add_zero, Nat.le_refl, Option.some.injEq, ne_eq, tyc0, tyc2, tyc4, tyc26, tyc32, tyc35, tyc38, tyc43, FR]) ⟨(by simp only [resv, resA, look, loadv, loadn, loadnm, load1, load1m, hget, maxLen_eq, ↓reduceIte, if_true, if_false, ite_true, ite_false, Nat.reduceEqDiff, Nat.reduceAdd, Nat.reduceMul, Nat.reduceLeDiff, Nat.reduceLT, reduceCtorEq, true_and, and_true, and_self, List.length_cons, List.length_nil, List.length_map, List.length_replicate, List.take_succ_cons, List.take_zero, List.drop_zero, List.drop_succ_cons, List.map_cons, List.map_nil, List.getD_cons_zero, List.getD_cons_succ, Nat.zero_add, Nat.add_zero, Nat.le_refl, Option.some.injEq, ne_eq, tyc0, tyc2, tyc4, tyc26, tyc32, tyc35, tyc38, tyc43, FR]; first | done | rfl), rfl⟩)
end Go.Proofs.Ytbnkmhlnoaebcaa
