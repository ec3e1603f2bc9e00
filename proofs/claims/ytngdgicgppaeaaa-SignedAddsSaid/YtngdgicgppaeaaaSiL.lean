/-
  The law SignedAdds.
-/
import Derived.Test.YtngdgicgppaeaaaSiK
namespace Go.Proofs.Ytngdgicgppaeaaa
open Go
set_option linter.unusedVariables false
set_option linter.unusedSimpArgs false

theorem to_prN (b : Bool) (n : Nat) (hn : n < 340282366920938463463374607431768211456) : ACt Try.prog 12 [prN b n] [] (Fn (.tup [sgN (b && decide (0 < n)) n, bv true])) := by
  have h := to_ct (upL b n) (dnL b n) _ _ (upN b n) (dnN b n) rfl rfl (by have := upL_len b n; omega) (by have := dnL_len b n; omega) (upL_val b n hn) (dnL_val b n hn)
    (by unfold dAbs upN dnN; cases b <;> simp <;> (try split) <;> omega)
  have e1 : dNeg (upN b n) (dnN b n) = (b && decide (0 < n)) := by unfold dNeg upN dnN; cases b <;> simp
  have e2 : dAbs (upN b n) (dnN b n) = n := by unfold dAbs upN dnN; cases b <;> simp; omega
  rw [e1, e2] at h
  exact h.one1 (rep_prN b n)
def sumA (U D : Nat) : AV := if dAbs U D < 340282366920938463463374607431768211456 then .tup [sgN (dNeg U D) (dAbs U D), bv true] else .tup [sgA (dNeg U D) 0 0, bv false]
theorem to_sum (b1 b2 : Bool) (n m : Nat) (hn : n < 340282366920938463463374607431768211456) (hm : m < 340282366920938463463374607431768211456) :
    ACt Try.prog 12 [prA (plusF (upL b1 n) (upL b2 m)) (plusF (dnL b1 n) (dnL b2 m))] [] (Fn (sumA (upN b1 n + upN b2 m) (dnN b1 n + dnN b2 m))) := by
  have l1 := upL_len b1 n
  have l2 := upL_len b2 m
  have l3 := dnL_len b1 n
  have l4 := dnL_len b2 m
  have k1 := plusF_len (upL b1 n) (upL b2 m)
  have k2 := plusF_len (dnL b1 n) (dnL b2 m)
  have v1 : valB (plusF (upL b1 n) (upL b2 m)) = upN b1 n + upN b2 m := by rw [plusF_val, upL_val _ _ hn, upL_val _ _ hm]
  have v2 : valB (plusF (dnL b1 n) (dnL b2 m)) = dnN b1 n + dnN b2 m := by rw [plusF_val, dnL_val _ _ hn, dnL_val _ _ hm]
  unfold sumA
  split
  · exact to_ct _ _ _ _ _ _ rfl rfl (by omega) (by omega) v1 v2 (by assumption)
  · exact to_over _ _ _ _ _ _ rfl rfl (by omega) (by omega) v1 v2 (by assumption)
set_option maxRecDepth 8000 in
set_option maxHeartbeats 4000000 in
theorem adds2_law (b1 b2 : Bool) (n m : Nat) (hn : n < 340282366920938463463374607431768211456) (hm : m < 340282366920938463463374607431768211456) : ACt Try.prog 5 [sgN b1 n, sgN b2 m] [] (fun r _ => r = bv true) := by
  refine ACt.intro Try.func5 rfl (by kernel_rfl) (by simp [Try.ntmps5]) (fun cx => ?_)
  simp only [argE, Try.ntmps5, Try.results5]
  have o1 := of16 b1 n hn
  have o2 := of16 b2 m hm
  have a1 := add15 b1 b2 n m hn hm
  have p1 := add17N b1 b2 n m
  have t1 := to_sum b1 b2 n m hn hm
  have n1 := negG b1 n
  have t2 := to_prN (!b1) n hn
  have c1 := cmp18 b1 b2 n m hn hm
  have c2 := cmp19N b1 b2 n m hn hm
  have r1 := Right_ct b1 ((n / 18446744073709551616 : Nat) : Int) ((n % 18446744073709551616 : Nat) : Int)
  have r2 := Right_ct (!b1 && decide (0 < n)) ((n / 18446744073709551616 : Nat) : Int) ((n % 18446744073709551616 : Nat) : Int)
  rw [rgtN _ n (by cases b1 <;> simp)] at r2
  obtain ⟨V, hV⟩ : ∃ V, V = cmpN (upN b1 n + dnN b2 m) (dnN b1 n + upN b2 m) := ⟨_, rfl⟩
  rw [← hV] at c1 c2
  obtain ⟨U, hU⟩ : ∃ U, U = upN b1 n + upN b2 m := ⟨_, rfl⟩
  obtain ⟨D, hD⟩ : ∃ D, D = dnN b1 n + dnN b2 m := ⟨_, rfl⟩
  rw [← hU, ← hD] at a1 t1
  obtain ⟨P, hP⟩ : ∃ P, P = plusF (upL b1 n) (upL b2 m) := ⟨_, rfl⟩
  obtain ⟨Q, hQ⟩ : ∃ Q, Q = plusF (dnL b1 n) (dnL b2 m) := ⟨_, rfl⟩
  rw [← hP, ← hQ] at p1 t1
  obtain ⟨F, hF⟩ : ∃ x, x = (!b1 && decide (0 < n)) := ⟨_, rfl⟩
  rw [← hF] at n1 t2 r2
  have z : (V == V) = true := beq_self_eq_true _
  obtain ⟨X, hX⟩ : ∃ X, X = bitsN n 128 := ⟨_, rfl⟩
  obtain ⟨Y, hY⟩ : ∃ Y, Y = bitsN m 128 := ⟨_, rfl⟩
  have q1 : prN b1 n = if b1 then .agg [nilS, .sl 128 (bl X)] else .agg [.sl 128 (bl X), nilS] := by rw [hX]; rfl
  have q2 : prN b2 m = if b2 then .agg [nilS, .sl 128 (bl Y)] else .agg [.sl 128 (bl Y), nilS] := by rw [hY]; rfl
  have q3 : prN (!b1) n = if b1 then .agg [.sl 128 (bl X), nilS] else .agg [nilS, .sl 128 (bl X)] := by rw [hX]; cases b1 <;> rfl
  rw [q1] at o1 p1 c2
  rw [q2] at o2 p1 c2
  rw [q3] at t2
  clear hX hY hP hQ hF hU hD hV q1 q2 q3
  have z3 : ((3 : Int) != 3) = false := by decide
  have z4 : ((0 : Int) != 0) = false := by decide
  unfold addA at a1
  unfold sumA at t1
  cases b1 <;> cases b2
  all_goals simp only [if_true, if_false, Bool.false_eq_true] at o1 o2 p1 c2 t2
  all_goals by_cases hd : dAbs U D < 340282366920938463463374607431768211456
  all_goals simp only [hd, if_true, if_false] at a1 t1
  all_goals clear hn hm
  all_goals obtain ⟨R, hR⟩ : ∃ R, R = ((((n / 18446744073709551616 : Nat) : Int) == 0) && (((n % 18446744073709551616 : Nat) : Int) == 0)) := ⟨_, rfl⟩
  all_goals unfold rgt at r1
  all_goals rw [← hR] at r1
  all_goals have hR2 := hR.symm
  all_goals have k1 : ((!R) == !R) = true := beq_self_eq_true _
  all_goals have k2 : (!false || !R) = true := rfl
  all_goals have k3 : (!true || !R) = !R := rfl
  all_goals try rw [k2] at r1
  all_goals try rw [k3] at r1
  all_goals (
      first | (have FRx := FR; clear FRx) | (have FR : ¬ ((1 : Nat) = 0) := Nat.one_ne_zero)
      repeat' first
        | (refine Sm.mk ?_; try simp -dsimp only [rvc, drawF, headN, pureH, maxLen_eq, stp, dvc, calleeOf, gcall, pev, eff, newB, okd, og, ogs, ogo, ogp, slv, bltv, opd, litv, strip, one, both, putE, St.put, look, gdOf, gdv, picka, pickv, pickw, binv, bini, bins, binb, binp, bina, shp, eqCells, unv, convv, nilv, faddv, addp, idxav, idxp, load1, load1m, loadn, loadnm, loadv, hget, hset, hrep, hdel, slicev, List.length_append, bnd, shift1, lenv, IntKind.bits, Nat.reducePow, Int.reducePow, Nat.min_def, extractv, fieldv, indexv, min2v, max2v, mkiv, cellsA, fillA, buildv, stC, oneC, rowMB, intsA, plN, appE, appZ, appC, appNZ, appNC, repA_one, VwL, srcC, srcZ, srcM, fresh_nil, fresh_cons, freshBut_nil, freshBut_cons, intsA_map, ne_eq, true_implies, forall_const, List.length_map, List.map_append, drop_getD0, Int.toNat_natCast, List.length_drop, List.length_take, Int.cast_ofNat_Int, isBoolT, isPtrT, isSliceT, uOk, List.size_toArray, List.length_cons, List.length_nil, List.getElem?_toArray, List.getElem?_cons_zero, List.getElem?_cons_succ, Option.bind_some, Option.map_some, Option.map_none, Option.isSome_some, Nat.reduceAdd, Nat.reduceMul, Nat.reduceSub, Nat.reduceLT, Nat.reduceLeDiff, Nat.reduceEqDiff, Nat.reduceBEq, Nat.reduceDiv, Nat.reduceMod, ↓reduceIte, reduceCtorEq, if_true, if_false, true_and, and_true, ite_true, ite_false, Bool.true_and, Bool.and_true, Bool.not_true, Bool.not_false, Bool.or_false, Bool.false_or, Bool.true_or, Bool.or_true, Bool.false_and, Bool.and_false, List.map_cons, List.map_nil, List.mem_cons, List.not_mem_nil, or_false, false_or, true_or, or_true, forall_eq_or_imp, forall_eq, List.all_cons, List.all_nil, List.append_nil, List.nil_append, List.cons_append, List.getD_cons_zero, List.getD_cons_succ, List.take_succ_cons, List.take_zero, List.drop_succ_cons, List.drop_zero, List.set_cons_zero, List.set_cons_succ, List.replicate_succ, List.replicate_zero, Value.oneCell', Nat.add_zero, Nat.zero_add, Nat.mul_one, Nat.one_mul, Int.toNat_zero, Int.reduceToNat, Int.reduceLT, Int.reduceLE, Nat.le_refl, Int.le_refl, Option.some.injEq, TypeDesc.slice.injEq, TypeDesc.int.injEq, List.length_replicate, TypeDesc.pointer.injEq, exists_eq, exists_eq_left, exists_eq_left', exists_eq', implies_true, beq_true, beq_false, and_self, beq_self_eq_true, bne_self_eq_false, decide_true, decide_false, cond_true, cond_false, Bool.not_eq_true', Bool.not_eq_false', imp_self, Bool.cond_false_right, Bool.cond_true_right, Bool.cond_true_left, Bool.cond_false_left, drawAF, alF, tyc0, tyc3, zmb3, tyc4, zmb4, tyc24, foff24_0, fpart24_0, foff24_1, fpart24_1, fe24, zmb24, bldT24, tyc26, foff26_0, fpart26_0, foff26_1, fpart26_1, zmb26, bldT26, tyc29, zmb29, tyc35, tyc37, elt37, mkz37, mkc37, apT37, elk37, zmb37, tyc40, foff40_0, fpart40_0, foff40_1, fpart40_1, zmb40, bldT40, tyc42, Try.underlying0, Try.underlying3, Try.underlying4, Try.underlying24, Try.underlying26, Try.underlying29, Try.underlying35, Try.underlying37, Try.underlying40, Try.underlying42, SeqQ, BlkQ, LoopQ, BodyQ, fe26, z, z3, z4, k1, hR2, beq_self_eq_true, FR])
        | (refine CallV.fn (awake_ct) (Sm.out ?_))
        | (refine ExF.mk (awake_ct) (Sm.out ?_))
        | (refine ExG.mk (fun hg => awake_ct) (Sm.out ?_))
        | (refine Or.inl (ExG.mk (fun hg => awake_ct) (Sm.out ?_)))
        | (refine Or.inl (And.intro ?_ (ExG.mk (fun hg => awake_ct) (Sm.out ?_))); focus (first | omega | assumption | decide | trivial | (intros; (repeat' refine And.intro ?_ ?_) <;> first | assumption | omega | trivial | decide) | (intros; simp only [decide_eq_true_eq, decide_eq_false_iff_not, Bool.and_eq_true, Bool.or_eq_true, Bool.and_eq_false_iff, Bool.or_eq_false_iff, bne_iff_ne, bne_eq_false_iff_eq, Int.not_lt, Int.not_le] at *; (repeat' refine And.intro ?_ ?_) <;> first | assumption | omega | trivial)))
        | (refine CallV.fn (o1) (Sm.out ?_))
        | (refine ExF.mk (o1) (Sm.out ?_))
        | (refine ExG.mk (fun hg => o1) (Sm.out ?_))
        | (refine Or.inl (ExG.mk (fun hg => o1) (Sm.out ?_)))
        | (refine Or.inl (And.intro ?_ (ExG.mk (fun hg => o1) (Sm.out ?_))); focus (first | omega | assumption | decide | trivial | (intros; (repeat' refine And.intro ?_ ?_) <;> first | assumption | omega | trivial | decide) | (intros; simp only [decide_eq_true_eq, decide_eq_false_iff_not, Bool.and_eq_true, Bool.or_eq_true, Bool.and_eq_false_iff, Bool.or_eq_false_iff, bne_iff_ne, bne_eq_false_iff_eq, Int.not_lt, Int.not_le] at *; (repeat' refine And.intro ?_ ?_) <;> first | assumption | omega | trivial)))
        | (refine CallV.fn (o2) (Sm.out ?_))
        | (refine ExF.mk (o2) (Sm.out ?_))
        | (refine ExG.mk (fun hg => o2) (Sm.out ?_))
        | (refine Or.inl (ExG.mk (fun hg => o2) (Sm.out ?_)))
        | (refine Or.inl (And.intro ?_ (ExG.mk (fun hg => o2) (Sm.out ?_))); focus (first | omega | assumption | decide | trivial | (intros; (repeat' refine And.intro ?_ ?_) <;> first | assumption | omega | trivial | decide) | (intros; simp only [decide_eq_true_eq, decide_eq_false_iff_not, Bool.and_eq_true, Bool.or_eq_true, Bool.and_eq_false_iff, Bool.or_eq_false_iff, bne_iff_ne, bne_eq_false_iff_eq, Int.not_lt, Int.not_le] at *; (repeat' refine And.intro ?_ ?_) <;> first | assumption | omega | trivial)))
        | (refine CallV.fn (a1) (Sm.out ?_))
        | (refine ExF.mk (a1) (Sm.out ?_))
        | (refine ExG.mk (fun hg => a1) (Sm.out ?_))
        | (refine Or.inl (ExG.mk (fun hg => a1) (Sm.out ?_)))
        | (refine Or.inl (And.intro ?_ (ExG.mk (fun hg => a1) (Sm.out ?_))); focus (first | omega | assumption | decide | trivial | (intros; (repeat' refine And.intro ?_ ?_) <;> first | assumption | omega | trivial | decide) | (intros; simp only [decide_eq_true_eq, decide_eq_false_iff_not, Bool.and_eq_true, Bool.or_eq_true, Bool.and_eq_false_iff, Bool.or_eq_false_iff, bne_iff_ne, bne_eq_false_iff_eq, Int.not_lt, Int.not_le] at *; (repeat' refine And.intro ?_ ?_) <;> first | assumption | omega | trivial)))
        | (refine CallV.fn (p1) (Sm.out ?_))
        | (refine ExF.mk (p1) (Sm.out ?_))
        | (refine ExG.mk (fun hg => p1) (Sm.out ?_))
        | (refine Or.inl (ExG.mk (fun hg => p1) (Sm.out ?_)))
        | (refine Or.inl (And.intro ?_ (ExG.mk (fun hg => p1) (Sm.out ?_))); focus (first | omega | assumption | decide | trivial | (intros; (repeat' refine And.intro ?_ ?_) <;> first | assumption | omega | trivial | decide) | (intros; simp only [decide_eq_true_eq, decide_eq_false_iff_not, Bool.and_eq_true, Bool.or_eq_true, Bool.and_eq_false_iff, Bool.or_eq_false_iff, bne_iff_ne, bne_eq_false_iff_eq, Int.not_lt, Int.not_le] at *; (repeat' refine And.intro ?_ ?_) <;> first | assumption | omega | trivial)))
        | (refine CallV.fn (t1) (Sm.out ?_))
        | (refine ExF.mk (t1) (Sm.out ?_))
        | (refine ExG.mk (fun hg => t1) (Sm.out ?_))
        | (refine Or.inl (ExG.mk (fun hg => t1) (Sm.out ?_)))
        | (refine Or.inl (And.intro ?_ (ExG.mk (fun hg => t1) (Sm.out ?_))); focus (first | omega | assumption | decide | trivial | (intros; (repeat' refine And.intro ?_ ?_) <;> first | assumption | omega | trivial | decide) | (intros; simp only [decide_eq_true_eq, decide_eq_false_iff_not, Bool.and_eq_true, Bool.or_eq_true, Bool.and_eq_false_iff, Bool.or_eq_false_iff, bne_iff_ne, bne_eq_false_iff_eq, Int.not_lt, Int.not_le] at *; (repeat' refine And.intro ?_ ?_) <;> first | assumption | omega | trivial)))
        | (refine CallV.fn (n1) (Sm.out ?_))
        | (refine ExF.mk (n1) (Sm.out ?_))
        | (refine ExG.mk (fun hg => n1) (Sm.out ?_))
        | (refine Or.inl (ExG.mk (fun hg => n1) (Sm.out ?_)))
        | (refine Or.inl (And.intro ?_ (ExG.mk (fun hg => n1) (Sm.out ?_))); focus (first | omega | assumption | decide | trivial | (intros; (repeat' refine And.intro ?_ ?_) <;> first | assumption | omega | trivial | decide) | (intros; simp only [decide_eq_true_eq, decide_eq_false_iff_not, Bool.and_eq_true, Bool.or_eq_true, Bool.and_eq_false_iff, Bool.or_eq_false_iff, bne_iff_ne, bne_eq_false_iff_eq, Int.not_lt, Int.not_le] at *; (repeat' refine And.intro ?_ ?_) <;> first | assumption | omega | trivial)))
        | (refine CallV.fn (t2) (Sm.out ?_))
        | (refine ExF.mk (t2) (Sm.out ?_))
        | (refine ExG.mk (fun hg => t2) (Sm.out ?_))
        | (refine Or.inl (ExG.mk (fun hg => t2) (Sm.out ?_)))
        | (refine Or.inl (And.intro ?_ (ExG.mk (fun hg => t2) (Sm.out ?_))); focus (first | omega | assumption | decide | trivial | (intros; (repeat' refine And.intro ?_ ?_) <;> first | assumption | omega | trivial | decide) | (intros; simp only [decide_eq_true_eq, decide_eq_false_iff_not, Bool.and_eq_true, Bool.or_eq_true, Bool.and_eq_false_iff, Bool.or_eq_false_iff, bne_iff_ne, bne_eq_false_iff_eq, Int.not_lt, Int.not_le] at *; (repeat' refine And.intro ?_ ?_) <;> first | assumption | omega | trivial)))
        | (refine CallV.fn (c1) (Sm.out ?_))
        | (refine ExF.mk (c1) (Sm.out ?_))
        | (refine ExG.mk (fun hg => c1) (Sm.out ?_))
        | (refine Or.inl (ExG.mk (fun hg => c1) (Sm.out ?_)))
        | (refine Or.inl (And.intro ?_ (ExG.mk (fun hg => c1) (Sm.out ?_))); focus (first | omega | assumption | decide | trivial | (intros; (repeat' refine And.intro ?_ ?_) <;> first | assumption | omega | trivial | decide) | (intros; simp only [decide_eq_true_eq, decide_eq_false_iff_not, Bool.and_eq_true, Bool.or_eq_true, Bool.and_eq_false_iff, Bool.or_eq_false_iff, bne_iff_ne, bne_eq_false_iff_eq, Int.not_lt, Int.not_le] at *; (repeat' refine And.intro ?_ ?_) <;> first | assumption | omega | trivial)))
        | (refine CallV.fn (c2) (Sm.out ?_))
        | (refine ExF.mk (c2) (Sm.out ?_))
        | (refine ExG.mk (fun hg => c2) (Sm.out ?_))
        | (refine Or.inl (ExG.mk (fun hg => c2) (Sm.out ?_)))
        | (refine Or.inl (And.intro ?_ (ExG.mk (fun hg => c2) (Sm.out ?_))); focus (first | omega | assumption | decide | trivial | (intros; (repeat' refine And.intro ?_ ?_) <;> first | assumption | omega | trivial | decide) | (intros; simp only [decide_eq_true_eq, decide_eq_false_iff_not, Bool.and_eq_true, Bool.or_eq_true, Bool.and_eq_false_iff, Bool.or_eq_false_iff, bne_iff_ne, bne_eq_false_iff_eq, Int.not_lt, Int.not_le] at *; (repeat' refine And.intro ?_ ?_) <;> first | assumption | omega | trivial)))
        | (refine CallV.fn (r1) (Sm.out ?_))
        | (refine ExF.mk (r1) (Sm.out ?_))
        | (refine ExG.mk (fun hg => r1) (Sm.out ?_))
        | (refine Or.inl (ExG.mk (fun hg => r1) (Sm.out ?_)))
        | (refine Or.inl (And.intro ?_ (ExG.mk (fun hg => r1) (Sm.out ?_))); focus (first | omega | assumption | decide | trivial | (intros; (repeat' refine And.intro ?_ ?_) <;> first | assumption | omega | trivial | decide) | (intros; simp only [decide_eq_true_eq, decide_eq_false_iff_not, Bool.and_eq_true, Bool.or_eq_true, Bool.and_eq_false_iff, Bool.or_eq_false_iff, bne_iff_ne, bne_eq_false_iff_eq, Int.not_lt, Int.not_le] at *; (repeat' refine And.intro ?_ ?_) <;> first | assumption | omega | trivial)))
        | (refine CallV.fn (r2) (Sm.out ?_))
        | (refine ExF.mk (r2) (Sm.out ?_))
        | (refine ExG.mk (fun hg => r2) (Sm.out ?_))
        | (refine Or.inl (ExG.mk (fun hg => r2) (Sm.out ?_)))
        | (refine Or.inl (And.intro ?_ (ExG.mk (fun hg => r2) (Sm.out ?_))); focus (first | omega | assumption | decide | trivial | (intros; (repeat' refine And.intro ?_ ?_) <;> first | assumption | omega | trivial | decide) | (intros; simp only [decide_eq_true_eq, decide_eq_false_iff_not, Bool.and_eq_true, Bool.or_eq_true, Bool.and_eq_false_iff, Bool.or_eq_false_iff, bne_iff_ne, bne_eq_false_iff_eq, Int.not_lt, Int.not_le] at *; (repeat' refine And.intro ?_ ?_) <;> first | assumption | omega | trivial)))
        | (refine WP.seq fun K hK => ?_)
        | (refine WP.region (rvc_sound _ _ (Sm.out ?_)))
        | (refine WP.drawM (p := 4) (r := 2) mixed (by decide +kernel) (by decide +kernel) (Sm.out ?_))
        | (refine WP.drawK rfl mixed (by decide +kernel) (Sm.out ?_))
        | (refine And.intro ?_ ?_; focus (first | assumption | omega | decide | trivial | (intro hob; simp only [hob, Bool.not_eq_true', Bool.not_eq_false', Bool.not_false, Bool.not_true, Bool.true_and, Bool.and_true, Bool.false_and, Bool.and_false, true_and, and_true, imp_self, implies_true, and_self]; done) | (intros; (repeat' refine And.intro ?_ ?_) <;> first | assumption | omega | trivial | decide) | (intros; simp only [decide_eq_true_eq, decide_eq_false_iff_not, Bool.and_eq_true, Bool.or_eq_true, Bool.and_eq_false_iff, Bool.or_eq_false_iff, bne_iff_ne, bne_eq_false_iff_eq, Int.not_lt, Int.not_le] at *; (repeat' refine And.intro ?_ ?_) <;> first | assumption | omega | trivial)))
        | (refine WP.block ?_)
        | (refine WP.cond rfl (fun hc => ?_) (fun hc => ?_) <;> (try simp only [decide_eq_true_eq, decide_eq_false_iff_not, Bool.and_eq_true, Bool.or_eq_true, Bool.and_eq_false_iff, Bool.or_eq_false_iff, Bool.not_eq_true', Bool.not_eq_false', Int.not_lt, Int.not_le, reduceCtorEq, false_and, and_false, false_or, or_false, true_and, and_true, true_or, or_true, not_true_eq_false, not_false_eq_true, beq_iff_eq, beq_eq_false_iff_ne, bne_iff_ne, bne_eq_false_iff_eq, ne_eq, Decidable.not_not] at hc) <;> (try (exact absurd hc (by decide))) <;> (try (exfalso; omega)))
        | (refine WP.skip ?_; simp only [SeqQ, BlkQ, LoopQ, BodyQ, ↓reduceIte, Nat.reduceEqDiff, reduceCtorEq, look, true_and])
        | (refine WP.exit ?_; simp only [SeqQ, BlkQ, LoopQ, BodyQ, ↓reduceIte, Nat.reduceEqDiff, reduceCtorEq, look, true_and])
        | (refine WP.ret (Sm.out ?_))
        | (refine ExG.mk (x := AV.any) (fun hg => absurd hg (by decide)) (Sm.out ?_))
        | (refine Or.inl (ExG.mk (x := AV.any) (fun hg => absurd hg (by decide)) (Sm.out ?_)))
        | (refine Or.inl (And.intro (fun hg => absurd hg (by decide)) (ExG.mk (x := AV.any) (fun hg => absurd hg (by decide)) (Sm.out ?_))))
        | (refine Rt.mk ?_; refine And.intro ?_ ?_ <;> (intro hg; first | exact absurd hg (by decide) | refine Sm.out ?_))
        | (refine Nu.mk ?_; first | ((fail_if_success (have hx := nb1)); intro nb1) | ((fail_if_success (have hx := nb2)); intro nb2) | ((fail_if_success (have hx := nb3)); intro nb3) | ((fail_if_success (have hx := nb4)); intro nb4) | ((fail_if_success (have hx := nb5)); intro nb5) | ((fail_if_success (have hx := nb6)); intro nb6) | ((fail_if_success (have hx := nb7)); intro nb7) | ((fail_if_success (have hx := nb8)); intro nb8) | ((fail_if_success (have hx := nb9)); intro nb9) | ((fail_if_success (have hx := nb10)); intro nb10) | ((fail_if_success (have hx := nb11)); intro nb11) | ((fail_if_success (have hx := nb12)); intro nb12) | ((fail_if_success (have hx := nb13)); intro nb13) | ((fail_if_success (have hx := nb14)); intro nb14))
        | (refine Fr.mk ?_; intro hfr; replace FR := And.intro hfr FR; clear hfr; refine Sm.out ?_)
        | (refine Two.mk ?_ ?_)
        | (refine Cs.mk ?_; intro hcs; first | exact False.elim hcs | (exfalso; omega) | (refine Sm.out ?_))
        | (refine (show VwL _ _ _ from ?_); simp only [VwL, and_true, true_and])
        | exact Vw.same _
        | (refine Vw.row' (by simp only [hget, ↓reduceIte, if_true, if_false, FR, fe26, z, z3, z4, k1, hR2, beq_self_eq_true]; first | done | rfl) ?_ ?_ ?_ ?_)
        | (refine And.intro (Vw.same _) ?_)
        | (refine And.intro (Vw.row' (by simp only [hget, ↓reduceIte, if_true, if_false, FR, fe26, z, z3, z4, k1, hR2, beq_self_eq_true]; first | done | rfl) ?_ ?_ ?_ ?_) ?_)
        | (refine OutQ.all ?_ ?_; (focus (simp only [resv, look, loadv, loadn, loadnm, load1, load1m, hget, maxLen_eq, ↓reduceIte, if_true, if_false, ite_true, ite_false, Nat.reduceEqDiff, Nat.reduceAdd, Nat.reduceMul, Nat.reduceLeDiff, Nat.reduceLT, reduceCtorEq, true_and, and_true, and_self, List.length_cons, List.length_nil, List.length_map, List.length_replicate, List.take_succ_cons, List.take_zero, List.drop_zero, List.drop_succ_cons, List.map_cons, List.map_nil, List.getD_cons_zero, List.getD_cons_succ, Nat.zero_add, Nat.add_zero, Nat.le_refl, Option.some.injEq, ne_eq, tyc0, tyc3, tyc4, tyc24, tyc26, tyc29, tyc35, tyc37, tyc40, tyc42, fe26, z, z3, z4, k1, hR2, beq_self_eq_true, FR])); (try simp only [resv, resA, Fn, look, loadv, loadn, loadnm, load1, load1m, hget, maxLen_eq, ↓reduceIte, if_true, if_false, ite_true, ite_false, Nat.reduceEqDiff, Nat.reduceAdd, Nat.reduceMul, Nat.reduceLeDiff, Nat.reduceLT, reduceCtorEq, true_and, and_true, and_self, List.length_cons, List.length_nil, List.length_map, List.length_replicate, List.take_succ_cons, List.take_zero, List.drop_zero, List.drop_succ_cons, List.map_cons, List.map_nil, List.getD_cons_zero, List.getD_cons_succ, Nat.zero_add, Nat.add_zero, Nat.le_refl, Option.some.injEq, ne_eq, tyc0, tyc3, tyc4, tyc24, tyc26, tyc29, tyc35, tyc37, tyc40, tyc42, fe26, z, z3, z4, k1, hR2, beq_self_eq_true, FR]); (try simp [resA, Fn, look, fe26, z, z3, z4, k1, hR2, beq_self_eq_true, FR]); done)
        | go_step
        | omega
        | (simp only [maxLen_eq]; omega))
end Go.Proofs.Ytngdgicgppaeaaa
