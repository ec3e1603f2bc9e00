/-
  What the document reads behind a head that is right.
-/
import Derived.Test.YtkfhekenaogceaaWiX
namespace Go.Proofs.Ytkfhekenaogceaa
open Go
set_option linter.unusedVariables false
set_option linter.unusedSimpArgs false

def Post3 (zl : Nat) (o : Option (AV × List Int)) (r : AV) (F' : Hp) : Prop :=
  match o with
  | none => Bad3 r F'
  | some (g, rest) => r = .tup [g, iv .i64 ((zl - rest.length : Nat) : Int), bv true] ∧ F' = []
theorem bad3_mk {zl : Nat} {n i y : Int} {st : ByteArray} {fl f : Bool} (h : f = false) : Post3 zl none (.tup [.agg [iv .u64 n, iv .i64 i, .lit (.string st), bv fl], iv .i64 y, bv f]) [] := ⟨(n, i, st, fl, y), by rw [h], rfl⟩
theorem good3_mk {zl : Nat} {g g' : AV} {nx : Int} {f : Bool} {rest : List Int} (hg : g' = g) (h1 : nx = ((zl - rest.length : Nat) : Int)) (h2 : f = true) : Post3 zl (some (g, rest)) (.tup [g', iv .i64 nx, bv f]) [] := by
  subst hg h1 h2; exact ⟨rfl, rfl⟩
/-- what a kind makes of a number -/
def tailF (kind most : Int) (ng : Bool) (N : Nat) (r : List Int) : Option (AV × List Int) :=
  if kind = 1 then (if ng then (if N = 0 ∨ 9223372036854775808 < N then none else some (.agg [nu 0, iv .i64 (-(N : Int)), eS, bv false], r)) else if 9223372036854775807 < N then none else some (.agg [nu 0, iv .i64 (N : Int), eS, bv false], r))
  else if kind = 0 then some (.agg [nu N, iv .i64 0, eS, bv false], r)
  else if most < 0 ∨ most < (N : Int) then none
  else if kind = 4 then some (.agg [nu N, iv .i64 0, eS, bv false], r)
  else if r.length < N then none else some (.agg [nu 0, iv .i64 0, .lit (.string (bstr (r.take N))), bv false], r.drop N)
set_option maxRecDepth 8000 in
set_option maxHeartbeats 8000000 in
theorem refG_goodT (Z t : List Int) (at_ m KK : Nat) (kind most : Int) (h : Z.drop at_ = (m : Int) :: t) (hb : By t) (hz : Z.length ≤ 2000) (h3 : kind ≠ 3) (hm : m < 256) (hH : HeadK kind m KK true)
    (hk : KK ≤ 8 ∧ KK ≤ t.length ∧ (KK = 0 ∨ t.getD 0 0 ≠ 0)) (hm1 : -9223372036854775808 ≤ most) (hm2 : most ≤ 9223372036854775807) :
    ACt Try.prog 8 [.slz .u8 Z, iv .i64 (at_ : Int), .agg [iv .i64 kind, iv .i64 most]] [] (Post3 Z.length (tailF kind most true (valL (t.take KK)) (t.drop KK))) := by
  obtain ⟨h1, h2, h3', h4, h5⟩ := drop_facts h
  have h50 := h5 0
  rw [Nat.add_zero] at h50
  obtain ⟨N, hN⟩ : ∃ N, N = valL (t.take KK) := ⟨_, rfl⟩
  obtain ⟨r, hr⟩ : ∃ r, r = t.drop KK := ⟨_, rfl⟩
  have hrl : r.length = t.length - KK := by rw [hr]; simp
  have hlt : ∀ j, j ≤ KK → valL (t.take j) < 256 ^ j := fun j hj => by
    have := valL_lt (hb.take j)
    rwa [show (t.take j).length = j by simp; omega] at this
  have hNlt : N < 18446744073709551616 := by
    have := hlt KK (Nat.le_refl _)
    have h8 : (256 : Nat) ^ KK ≤ 256 ^ 8 := Nat.pow_le_pow_right (by omega) hk.1
    omega
  have hZr : Z.drop (at_ + 1 + KK) = r := by rw [hr, h2, List.drop_drop]
  rw [← hN, ← hr]
  have hT := tailF kind most true N r
  refine ACt.intro Try.func8 rfl (by kernel_rfl) (by simp [Try.ntmps8]) (fun cx => ?_)
  simp only [argE, Try.ntmps8, Try.results8]
  have d : decide ((at_ : Int) ≥ (Z.length : Int)) = false := by simp; omega
  have z : (kind == 3) = false := beq_eq_false_iff_ne.2 h3
  have w : IntKind.i64.wrap ((at_ : Int) + 1) = ((at_ + 1 : Nat) : Int) := by rw [wrap_i64 (by omega) (by omega)]; omega
  have w1 : IntKind.i64.wrap (m : Int) = (m : Int) := wrap_i64_nat (by omega)
  have w2 : IntKind.i64.wrap ((Z.length : Int) - at_) = ((t.length + 1 : Nat) : Int) := by rw [wrap_i64 (by omega) (by omega)]; omega
  have w3 : IntKind.i64.wrap (((t.length + 1 : Nat) : Int) - 1) = (t.length : Int) := by rw [wrap_i64 (by omega) (by omega)]; omega
  have e1 : (m : Int).tdiv 16 = ((m / 16 : Nat) : Int) := by rw [Int.tdiv_eq_ediv_of_nonneg (by omega)]; simp
  have e2 : IntKind.i64.wrap ((m / 16 : Nat) : Int) = ((m / 16 : Nat) : Int) := wrap_i64_nat (by omega)
  have e3 : ((m / 16 : Nat) : Int).tmod 2 = ((m / 16 % 2 : Nat) : Int) := by rw [Int.tmod_eq_emod_of_nonneg (by omega)]; simp
  have e4 : IntKind.i64.wrap ((m / 16 % 2 : Nat) : Int) = ((m / 16 % 2 : Nat) : Int) := wrap_i64_nat (by omega)
  have g1 : decide ((KK : Int) > 8) = false := by simp; omega
  have g2 : decide ((KK : Int) > (t.length : Int)) = false := by simp; omega
  have hH2 : kind = 1 ∧ m / 16 % 2 = 1 ∧ KK = m - 16 := by
    rcases hH with ⟨_, _, p3⟩ | ⟨_, _, _, p3⟩ | ⟨p1, p0, p2, _⟩
    · cases p3
    · cases p3
    · exact ⟨p1, p0, p2⟩
  obtain ⟨p1, p0, p2⟩ := hH2
  have f1 : (kind == 1) = true := by rw [p1]; rfl
  have f2 : (((m / 16 % 2 : Nat) : Int) == 1) = true := by rw [p0]; rfl
  have k0 : (kind == 0) = false := by rw [p1]; rfl
  have wK : IntKind.i64.wrap ((m : Int) - 16) = (KK : Int) := by rw [wrap_i64 (by omega) (by omega)]; omega
  clear hH
  first | (have FRx := FR; clear FRx) | (have FR : ¬ ((1 : Nat) = 0) := Nat.one_ne_zero)
  repeat' first
    | (refine Sm.mk ?_; try simp -dsimp only [rvc, drawF, headN, pureH, maxLen_eq, stp, dvc, calleeOf, gcall, pev, eff, newB, okd, og, ogs, ogo, ogp, slv, bltv, opd, litv, strip, one, both, putE, St.put, look, gdOf, gdv, picka, pickv, pickw, binv, bini, bins, binb, binp, bina, shp, eqCells, unv, convv, nilv, faddv, addp, idxav, idxp, load1, load1m, loadn, loadnm, loadv, hget, hset, hrep, hdel, slicev, List.length_append, bnd, shift1, lenv, IntKind.bits, Nat.reducePow, Int.reducePow, Nat.min_def, extractv, fieldv, indexv, min2v, max2v, mkiv, cellsA, fillA, buildv, stC, oneC, rowMB, intsA, plN, appE, appZ, appC, appNZ, appNC, repA_one, VwL, srcC, srcZ, srcM, fresh_nil, fresh_cons, freshBut_nil, freshBut_cons, intsA_map, ne_eq, true_implies, forall_const, List.length_map, List.map_append, drop_getD0, Int.toNat_natCast, List.length_drop, List.length_take, Int.cast_ofNat_Int, isBoolT, isPtrT, isSliceT, uOk, List.size_toArray, List.length_cons, List.length_nil, List.getElem?_toArray, List.getElem?_cons_zero, List.getElem?_cons_succ, Option.bind_some, Option.map_some, Option.map_none, Option.isSome_some, Nat.reduceAdd, Nat.reduceMul, Nat.reduceSub, Nat.reduceLT, Nat.reduceLeDiff, Nat.reduceEqDiff, Nat.reduceBEq, Nat.reduceDiv, Nat.reduceMod, ↓reduceIte, reduceCtorEq, if_true, if_false, true_and, and_true, ite_true, ite_false, Bool.true_and, Bool.and_true, Bool.not_true, Bool.not_false, Bool.or_false, Bool.false_or, Bool.true_or, Bool.or_true, Bool.false_and, Bool.and_false, List.map_cons, List.map_nil, List.mem_cons, List.not_mem_nil, or_false, false_or, true_or, or_true, forall_eq_or_imp, forall_eq, List.all_cons, List.all_nil, List.append_nil, List.nil_append, List.cons_append, List.getD_cons_zero, List.getD_cons_succ, List.take_succ_cons, List.take_zero, List.drop_succ_cons, List.drop_zero, List.set_cons_zero, List.set_cons_succ, List.replicate_succ, List.replicate_zero, Value.oneCell', Nat.add_zero, Nat.zero_add, Nat.mul_one, Nat.one_mul, Int.toNat_zero, Int.reduceToNat, Int.reduceLT, Int.reduceLE, Nat.le_refl, Int.le_refl, Option.some.injEq, TypeDesc.slice.injEq, TypeDesc.int.injEq, List.length_replicate, TypeDesc.pointer.injEq, exists_eq, exists_eq_left, exists_eq_left', exists_eq', implies_true, beq_true, beq_false, and_self, beq_self_eq_true, bne_self_eq_false, decide_true, decide_false, cond_true, cond_false, Bool.not_eq_true', Bool.not_eq_false', imp_self, Bool.cond_false_right, Bool.cond_true_right, Bool.cond_true_left, Bool.cond_false_left, drawSF, hdel, tyc0, tyc2, zmb2, tyc3, zmb3, tyc4, zmb4, tyc5, zmb5, tyc9, zmb9, tyc22, elt22, mkz22, apT22, elk22, zmb22, tyc27, zmb27, tyc29, foff29_0, fpart29_0, foff29_1, fpart29_1, foff29_2, fpart29_2, foff29_3, fpart29_3, fe29, zmb29, bldT29, tyc33, foff33_0, fpart33_0, foff33_1, fpart33_1, fe33, zmb33, bldT33, Try.underlying0, Try.underlying2, Try.underlying3, Try.underlying4, Try.underlying5, Try.underlying9, Try.underlying22, Try.underlying27, Try.underlying29, Try.underlying33, SeqQ, BlkQ, LoopQ, BodyQ, d, z, w, w1, w2, w3, e1, e2, e3, e4, f1, f2, wK, h4, h50, g1, g2, FR])
    | (refine WP.seq fun K hK => ?_)
    | (refine WP.region (rvc_sound _ _ (Sm.out ?_)))
    | (refine WP.drawS (is := 13) (k := 16) mixed (by decide +kernel) (by decide +kernel) (Sm.out ?_))
    | (refine WP.drawK rfl mixed (by decide +kernel) (Sm.out ?_))
    | (refine And.intro ?_ ?_; focus (first | assumption | omega | decide | trivial | (intro hob; simp only [hob, Bool.not_eq_true', Bool.not_eq_false', Bool.not_false, Bool.not_true, Bool.true_and, Bool.and_true, Bool.false_and, Bool.and_false, true_and, and_true, imp_self, implies_true, and_self]; done) | (intros; (repeat' refine And.intro ?_ ?_) <;> first | assumption | omega | trivial | decide) | (intros; simp only [decide_eq_true_eq, decide_eq_false_iff_not, Bool.and_eq_true, Bool.or_eq_true, Bool.and_eq_false_iff, Bool.or_eq_false_iff, bne_iff_ne, bne_eq_false_iff_eq, Bool.not_eq_true', Bool.not_eq_false', Int.not_lt, Int.not_le] at *; (repeat' refine And.intro ?_ ?_) <;> first | assumption | omega | trivial)))
    | (refine WP.block ?_)
    | (refine WP.cond rfl (fun hc => ?_) (fun hc => ?_) <;> (try simp only [decide_eq_true_eq, decide_eq_false_iff_not, Bool.and_eq_true, Bool.or_eq_true, Bool.and_eq_false_iff, Bool.or_eq_false_iff, Bool.not_eq_true', Bool.not_eq_false', Int.not_lt, Int.not_le, reduceCtorEq, false_and, and_false, false_or, or_false, true_and, and_true, true_or, or_true, not_true_eq_false, not_false_eq_true, beq_iff_eq, beq_eq_false_iff_ne, bne_iff_ne, bne_eq_false_iff_eq, ne_eq, Decidable.not_not] at hc) <;> (try (exact absurd hc (by decide))) <;> (try (exfalso; omega)))
    | (refine WP.skip ?_; simp only [SeqQ, BlkQ, LoopQ, BodyQ, ↓reduceIte, Nat.reduceEqDiff, reduceCtorEq, look, true_and])
    | (refine WP.exit ?_; simp only [SeqQ, BlkQ, LoopQ, BodyQ, ↓reduceIte, Nat.reduceEqDiff, reduceCtorEq, look, true_and])
    | (refine WP.ret (Sm.out ?_))
    | (refine ExG.mk (x := AV.any) (fun hg => absurd hg (by decide)) (Sm.out ?_))
    | (refine Or.inl (ExG.mk (x := AV.any) (fun hg => absurd hg (by decide)) (Sm.out ?_)))
    | (refine Or.inl (And.intro (fun hg => absurd hg (by decide)) (ExG.mk (x := AV.any) (fun hg => absurd hg (by decide)) (Sm.out ?_))))
    | (refine Rt.mk ?_; refine And.intro ?_ ?_ <;> (intro hg; first | exact absurd hg (by decide) | refine Sm.out ?_))
    | (refine Nu.mk ?_; first | ((fail_if_success (have hx := nb1)); intro nb1) | ((fail_if_success (have hx := nb2)); intro nb2) | ((fail_if_success (have hx := nb3)); intro nb3) | ((fail_if_success (have hx := nb4)); intro nb4) | ((fail_if_success (have hx := nb5)); intro nb5) | ((fail_if_success (have hx := nb6)); intro nb6) | ((fail_if_success (have hx := nb7)); intro nb7) | ((fail_if_success (have hx := nb8)); intro nb8) | ((fail_if_success (have hx := nb9)); intro nb9) | ((fail_if_success (have hx := nb10)); intro nb10) | ((fail_if_success (have hx := nb11)); intro nb11) | ((fail_if_success (have hx := nb12)); intro nb12) | ((fail_if_success (have hx := nb13)); intro nb13) | ((fail_if_success (have hx := nb14)); intro nb14))
    | (refine Fr.mk ?_; intro hfr; replace FR := And.intro hfr FR; clear hfr; refine Sm.out ?_)
    | (refine Two.mk ?_ ?_)
    | (refine Cs.mk ?_; intro hcs; first | exact False.elim hcs | (exfalso; omega) | (refine Sm.out ?_))
    | (refine (show VwL _ _ _ from ?_); simp only [VwL, and_true, true_and])
    | exact Vw.same _
    | (refine Vw.row' (by simp only [hget, ↓reduceIte, if_true, if_false, FR, d, z, w, w1, w2, w3, e1, e2, e3, e4, f1, f2, wK, h4, h50, g1, g2]; first | done | rfl) ?_ ?_ ?_ ?_)
    | (refine And.intro (Vw.same _) ?_)
    | (refine And.intro (Vw.row' (by simp only [hget, ↓reduceIte, if_true, if_false, FR, d, z, w, w1, w2, w3, e1, e2, e3, e4, f1, f2, wK, h4, h50, g1, g2]; first | done | rfl) ?_ ?_ ?_ ?_) ?_)
    | go_step
    | omega
    | (simp only [maxLen_eq]; omega)
  clear g1 g2 e1 e2 e3 e4 w2 w3
  refine WP.loop (Γ := GG) (fun g => ⟨[(13, iv .i64 g.j), (10, iv .i64 KK), (12, nu (valL (t.take g.j))), (0, .slz .u8 Z), (1, iv .i64 at_), (11, bv true), (5, pt nb1 0), (6, pt nb2 0), (9, pt nb3 0)],
    [(nb1, .cells [iv .i64 kind, iv .i64 most] 2 33), (nb2, .cells [iv .u64 0, iv .i64 0, eS, bv false] 4 29), (nb3, .cells [iv .u64 0, iv .i64 0, eS, bv false] 4 29)]⟩) (fun g => g.j ≤ KK) (fun g => KK - g.j) ⟨0⟩ (by simp) (Sub.pick (by simp [pickB, hget, hdel, FR, valL]) (by simp [look, valL])) ?_
  intro ⟨j⟩ hj
  simp only at hj ⊢
  (refine WP.nd fun hnd => ?_; simp only [ndF, fresh_cons, fresh_nil, and_true, ne_eq] at hnd; replace FR := And.intro hnd FR; clear hnd)
  by_cases hjk : j < KK
  · have k1 : decide ((j : Int) < KK) = true := by simp; omega
    obtain ⟨c, hc0⟩ : ∃ c : Nat, t.getD j 0 = (c : Int) ∧ c ≤ 255 := by
      have hjt : j < t.length := by omega
      have := hb (t.getD j 0) (by rw [List.getD_eq_getElem?_getD, List.getElem?_eq_getElem hjt, Option.getD_some]; exact List.getElem_mem hjt)
      obtain ⟨c, hc⟩ := Int.eq_ofNat_of_zero_le this.1
      exact ⟨c, hc, by omega⟩
    have vj := valL_take (l := t) (i := j) (by omega)
    rw [hc0.1, Int.toNat_natCast] at vj
    have hv1 := hlt j (by omega)
    have h8 : (256 : Nat) ^ j ≤ 256 ^ 7 := Nat.pow_le_pow_right (by omega) (by omega)
    obtain ⟨V, hV⟩ : ∃ V, V = valL (t.take j) := ⟨_, rfl⟩
    rw [← hV] at vj hv1 ⊢
    have a1 : IntKind.u64.wrap (256 * (V : Int)) = ((256 * V : Nat) : Int) := by rw [show 256 * (V : Int) = ((256 * V : Nat) : Int) by simp, wrap_u64_nat (by omega)]
    have a2 : IntKind.i64.wrap (((at_ + 1 : Nat) : Int) + (j : Int)) = ((at_ + 1 + j : Nat) : Int) := by rw [wrap_i64 (by omega) (by omega)]; omega
    have a3 : Z.getD (at_ + 1 + j) 0 = (c : Int) := by rw [h5, hc0.1]
    have a4 : IntKind.u64.wrap (c : Int) = (c : Int) := wrap_u64_nat (by omega)
    have a5 : IntKind.u64.wrap (((256 * V : Nat) : Int) + (c : Int)) = ((V * 256 + c : Nat) : Int) := by rw [wrap_u64 (by omega) (by omega)]; omega
    have a6 : IntKind.i64.wrap ((j : Int) + 1) = ((j + 1 : Nat) : Int) := by rw [wrap_i64 (by omega) (by omega)]; omega
    first | (have FRx := FR; clear FRx) | (have FR : ¬ ((1 : Nat) = 0) := Nat.one_ne_zero)
    repeat' first
      | (refine Sm.mk ?_; try simp -dsimp only [rvc, drawF, headN, pureH, maxLen_eq, stp, dvc, calleeOf, gcall, pev, eff, newB, okd, og, ogs, ogo, ogp, slv, bltv, opd, litv, strip, one, both, putE, St.put, look, gdOf, gdv, picka, pickv, pickw, binv, bini, bins, binb, binp, bina, shp, eqCells, unv, convv, nilv, faddv, addp, idxav, idxp, load1, load1m, loadn, loadnm, loadv, hget, hset, hrep, hdel, slicev, List.length_append, bnd, shift1, lenv, IntKind.bits, Nat.reducePow, Int.reducePow, Nat.min_def, extractv, fieldv, indexv, min2v, max2v, mkiv, cellsA, fillA, buildv, stC, oneC, rowMB, intsA, plN, appE, appZ, appC, appNZ, appNC, repA_one, VwL, srcC, srcZ, srcM, fresh_nil, fresh_cons, freshBut_nil, freshBut_cons, intsA_map, ne_eq, true_implies, forall_const, List.length_map, List.map_append, drop_getD0, Int.toNat_natCast, List.length_drop, List.length_take, Int.cast_ofNat_Int, isBoolT, isPtrT, isSliceT, uOk, List.size_toArray, List.length_cons, List.length_nil, List.getElem?_toArray, List.getElem?_cons_zero, List.getElem?_cons_succ, Option.bind_some, Option.map_some, Option.map_none, Option.isSome_some, Nat.reduceAdd, Nat.reduceMul, Nat.reduceSub, Nat.reduceLT, Nat.reduceLeDiff, Nat.reduceEqDiff, Nat.reduceBEq, Nat.reduceDiv, Nat.reduceMod, ↓reduceIte, reduceCtorEq, if_true, if_false, true_and, and_true, ite_true, ite_false, Bool.true_and, Bool.and_true, Bool.not_true, Bool.not_false, Bool.or_false, Bool.false_or, Bool.true_or, Bool.or_true, Bool.false_and, Bool.and_false, List.map_cons, List.map_nil, List.mem_cons, List.not_mem_nil, or_false, false_or, true_or, or_true, forall_eq_or_imp, forall_eq, List.all_cons, List.all_nil, List.append_nil, List.nil_append, List.cons_append, List.getD_cons_zero, List.getD_cons_succ, List.take_succ_cons, List.take_zero, List.drop_succ_cons, List.drop_zero, List.set_cons_zero, List.set_cons_succ, List.replicate_succ, List.replicate_zero, Value.oneCell', Nat.add_zero, Nat.zero_add, Nat.mul_one, Nat.one_mul, Int.toNat_zero, Int.reduceToNat, Int.reduceLT, Int.reduceLE, Nat.le_refl, Int.le_refl, Option.some.injEq, TypeDesc.slice.injEq, TypeDesc.int.injEq, List.length_replicate, TypeDesc.pointer.injEq, exists_eq, exists_eq_left, exists_eq_left', exists_eq', implies_true, beq_true, beq_false, and_self, beq_self_eq_true, bne_self_eq_false, decide_true, decide_false, cond_true, cond_false, Bool.not_eq_true', Bool.not_eq_false', imp_self, Bool.cond_false_right, Bool.cond_true_right, Bool.cond_true_left, Bool.cond_false_left, drawSF, hdel, tyc0, tyc2, zmb2, tyc3, zmb3, tyc4, zmb4, tyc5, zmb5, tyc9, zmb9, tyc22, elt22, mkz22, apT22, elk22, zmb22, tyc27, zmb27, tyc29, foff29_0, fpart29_0, foff29_1, fpart29_1, foff29_2, fpart29_2, foff29_3, fpart29_3, fe29, zmb29, bldT29, tyc33, foff33_0, fpart33_0, foff33_1, fpart33_1, fe33, zmb33, bldT33, Try.underlying0, Try.underlying2, Try.underlying3, Try.underlying4, Try.underlying5, Try.underlying9, Try.underlying22, Try.underlying27, Try.underlying29, Try.underlying33, SeqQ, BlkQ, LoopQ, BodyQ, k1, w, a1, a2, a3, a4, a5, a6, FR])
      | (refine WP.seq fun K hK => ?_)
      | (refine WP.region (rvc_sound _ _ (Sm.out ?_)))
      | (refine WP.drawS (is := 13) (k := 16) mixed (by decide +kernel) (by decide +kernel) (Sm.out ?_))
      | (refine WP.drawK rfl mixed (by decide +kernel) (Sm.out ?_))
      | (refine And.intro ?_ ?_; focus (first | assumption | omega | decide | trivial | (intro hob; simp only [hob, Bool.not_eq_true', Bool.not_eq_false', Bool.not_false, Bool.not_true, Bool.true_and, Bool.and_true, Bool.false_and, Bool.and_false, true_and, and_true, imp_self, implies_true, and_self]; done) | (intros; (repeat' refine And.intro ?_ ?_) <;> first | assumption | omega | trivial | decide) | (intros; simp only [decide_eq_true_eq, decide_eq_false_iff_not, Bool.and_eq_true, Bool.or_eq_true, Bool.and_eq_false_iff, Bool.or_eq_false_iff, bne_iff_ne, bne_eq_false_iff_eq, Bool.not_eq_true', Bool.not_eq_false', Int.not_lt, Int.not_le] at *; (repeat' refine And.intro ?_ ?_) <;> first | assumption | omega | trivial)))
      | (refine WP.block ?_)
      | (refine WP.cond rfl (fun hc => ?_) (fun hc => ?_) <;> (try simp only [decide_eq_true_eq, decide_eq_false_iff_not, Bool.and_eq_true, Bool.or_eq_true, Bool.and_eq_false_iff, Bool.or_eq_false_iff, Bool.not_eq_true', Bool.not_eq_false', Int.not_lt, Int.not_le, reduceCtorEq, false_and, and_false, false_or, or_false, true_and, and_true, true_or, or_true, not_true_eq_false, not_false_eq_true, beq_iff_eq, beq_eq_false_iff_ne, bne_iff_ne, bne_eq_false_iff_eq, ne_eq, Decidable.not_not] at hc) <;> (try (exact absurd hc (by decide))) <;> (try (exfalso; omega)))
      | (refine WP.skip ?_; simp only [SeqQ, BlkQ, LoopQ, BodyQ, ↓reduceIte, Nat.reduceEqDiff, reduceCtorEq, look, true_and])
      | (refine WP.exit ?_; simp only [SeqQ, BlkQ, LoopQ, BodyQ, ↓reduceIte, Nat.reduceEqDiff, reduceCtorEq, look, true_and])
      | (refine WP.ret (Sm.out ?_))
      | (refine ExG.mk (x := AV.any) (fun hg => absurd hg (by decide)) (Sm.out ?_))
      | (refine Or.inl (ExG.mk (x := AV.any) (fun hg => absurd hg (by decide)) (Sm.out ?_)))
      | (refine Or.inl (And.intro (fun hg => absurd hg (by decide)) (ExG.mk (x := AV.any) (fun hg => absurd hg (by decide)) (Sm.out ?_))))
      | (refine Rt.mk ?_; refine And.intro ?_ ?_ <;> (intro hg; first | exact absurd hg (by decide) | refine Sm.out ?_))
      | (refine Nu.mk ?_; first | ((fail_if_success (have hx := nb1)); intro nb1) | ((fail_if_success (have hx := nb2)); intro nb2) | ((fail_if_success (have hx := nb3)); intro nb3) | ((fail_if_success (have hx := nb4)); intro nb4) | ((fail_if_success (have hx := nb5)); intro nb5) | ((fail_if_success (have hx := nb6)); intro nb6) | ((fail_if_success (have hx := nb7)); intro nb7) | ((fail_if_success (have hx := nb8)); intro nb8) | ((fail_if_success (have hx := nb9)); intro nb9) | ((fail_if_success (have hx := nb10)); intro nb10) | ((fail_if_success (have hx := nb11)); intro nb11) | ((fail_if_success (have hx := nb12)); intro nb12) | ((fail_if_success (have hx := nb13)); intro nb13) | ((fail_if_success (have hx := nb14)); intro nb14))
      | (refine Fr.mk ?_; intro hfr; replace FR := And.intro hfr FR; clear hfr; refine Sm.out ?_)
      | (refine Two.mk ?_ ?_)
      | (refine Cs.mk ?_; intro hcs; first | exact False.elim hcs | (exfalso; omega) | (refine Sm.out ?_))
      | (refine (show VwL _ _ _ from ?_); simp only [VwL, and_true, true_and])
      | exact Vw.same _
      | (refine Vw.row' (by simp only [hget, ↓reduceIte, if_true, if_false, FR, k1, w, a1, a2, a3, a4, a5, a6]; first | done | rfl) ?_ ?_ ?_ ?_)
      | (refine And.intro (Vw.same _) ?_)
      | (refine And.intro (Vw.row' (by simp only [hget, ↓reduceIte, if_true, if_false, FR, k1, w, a1, a2, a3, a4, a5, a6]; first | done | rfl) ?_ ?_ ?_ ?_) ?_)
      | go_step
      | omega
      | (simp only [maxLen_eq]; omega)
    exact ⟨⟨j + 1⟩, by simp only; omega, by simp only; omega, (Sub.pick (by simp [pickB, hget, hdel, FR, vj]) (by simp [look, vj]))⟩
  · have k1 : decide ((j : Int) < KK) = false := by simp; omega
    obtain rfl : j = KK := by omega
    have wn : IntKind.i64.wrap (((at_ + 1 : Nat) : Int) + (j : Int)) = ((at_ + 1 + j : Nat) : Int) := by rw [wrap_i64 (by omega) (by omega)]; omega
    have wl : IntKind.i64.wrap ((Z.length : Int) - ((at_ + 1 + j : Nat) : Int)) = (r.length : Int) := by rw [wrap_i64 (by omega) (by omega)]; omega
    have wr : IntKind.u64.wrap (r.length : Int) = (r.length : Int) := wrap_u64_nat (by omega)
    have hN' := hN.symm
    have hneg : N ≤ 9223372036854775808 → IntKind.i64.wrap (IntKind.u64.wrap (0 - (N : Int))) = -(N : Int) := fun hN9 => by
      rw [wrap_u64_mod]; simp only [IntKind.wrap, IntKind.bits, IntKind.signed]; simp; omega
    first | (have FRx := FR; clear FRx) | (have FR : ¬ ((1 : Nat) = 0) := Nat.one_ne_zero)
    repeat' first
      | (refine Sm.mk ?_; try simp -dsimp only [rvc, drawF, headN, pureH, maxLen_eq, stp, dvc, calleeOf, gcall, pev, eff, newB, okd, og, ogs, ogo, ogp, slv, bltv, opd, litv, strip, one, both, putE, St.put, look, gdOf, gdv, picka, pickv, pickw, binv, bini, bins, binb, binp, bina, shp, eqCells, unv, convv, nilv, faddv, addp, idxav, idxp, load1, load1m, loadn, loadnm, loadv, hget, hset, hrep, hdel, slicev, List.length_append, bnd, shift1, lenv, IntKind.bits, Nat.reducePow, Int.reducePow, Nat.min_def, extractv, fieldv, indexv, min2v, max2v, mkiv, cellsA, fillA, buildv, stC, oneC, rowMB, intsA, plN, appE, appZ, appC, appNZ, appNC, repA_one, VwL, srcC, srcZ, srcM, fresh_nil, fresh_cons, freshBut_nil, freshBut_cons, intsA_map, ne_eq, true_implies, forall_const, List.length_map, List.map_append, drop_getD0, Int.toNat_natCast, List.length_drop, List.length_take, Int.cast_ofNat_Int, isBoolT, isPtrT, isSliceT, uOk, List.size_toArray, List.length_cons, List.length_nil, List.getElem?_toArray, List.getElem?_cons_zero, List.getElem?_cons_succ, Option.bind_some, Option.map_some, Option.map_none, Option.isSome_some, Nat.reduceAdd, Nat.reduceMul, Nat.reduceSub, Nat.reduceLT, Nat.reduceLeDiff, Nat.reduceEqDiff, Nat.reduceBEq, Nat.reduceDiv, Nat.reduceMod, ↓reduceIte, reduceCtorEq, if_true, if_false, true_and, and_true, ite_true, ite_false, Bool.true_and, Bool.and_true, Bool.not_true, Bool.not_false, Bool.or_false, Bool.false_or, Bool.true_or, Bool.or_true, Bool.false_and, Bool.and_false, List.map_cons, List.map_nil, List.mem_cons, List.not_mem_nil, or_false, false_or, true_or, or_true, forall_eq_or_imp, forall_eq, List.all_cons, List.all_nil, List.append_nil, List.nil_append, List.cons_append, List.getD_cons_zero, List.getD_cons_succ, List.take_succ_cons, List.take_zero, List.drop_succ_cons, List.drop_zero, List.set_cons_zero, List.set_cons_succ, List.replicate_succ, List.replicate_zero, Value.oneCell', Nat.add_zero, Nat.zero_add, Nat.mul_one, Nat.one_mul, Int.toNat_zero, Int.reduceToNat, Int.reduceLT, Int.reduceLE, Nat.le_refl, Int.le_refl, Option.some.injEq, TypeDesc.slice.injEq, TypeDesc.int.injEq, List.length_replicate, TypeDesc.pointer.injEq, exists_eq, exists_eq_left, exists_eq_left', exists_eq', implies_true, beq_true, beq_false, and_self, beq_self_eq_true, bne_self_eq_false, decide_true, decide_false, cond_true, cond_false, Bool.not_eq_true', Bool.not_eq_false', imp_self, Bool.cond_false_right, Bool.cond_true_right, Bool.cond_true_left, Bool.cond_false_left, drawSF, hdel, tyc0, tyc2, zmb2, tyc3, zmb3, tyc4, zmb4, tyc5, zmb5, tyc9, zmb9, tyc22, elt22, mkz22, apT22, elk22, zmb22, tyc27, zmb27, tyc29, foff29_0, fpart29_0, foff29_1, fpart29_1, foff29_2, fpart29_2, foff29_3, fpart29_3, fe29, zmb29, bldT29, tyc33, foff33_0, fpart33_0, foff33_1, fpart33_1, fe33, zmb33, bldT33, Try.underlying0, Try.underlying2, Try.underlying3, Try.underlying4, Try.underlying5, Try.underlying9, Try.underlying22, Try.underlying27, Try.underlying29, Try.underlying33, SeqQ, BlkQ, LoopQ, BodyQ, k1, w, wn, wl, wr, hN', k0, f1, FR])
      | (refine WP.seq fun K hK => ?_)
      | (refine WP.region (rvc_sound _ _ (Sm.out ?_)))
      | (refine WP.drawS (is := 13) (k := 16) mixed (by decide +kernel) (by decide +kernel) (Sm.out ?_))
      | (refine WP.drawK rfl mixed (by decide +kernel) (Sm.out ?_))
      | (refine And.intro ?_ ?_; focus (first | assumption | omega | decide | trivial | (intro hob; simp only [hob, Bool.not_eq_true', Bool.not_eq_false', Bool.not_false, Bool.not_true, Bool.true_and, Bool.and_true, Bool.false_and, Bool.and_false, true_and, and_true, imp_self, implies_true, and_self]; done) | (intros; (repeat' refine And.intro ?_ ?_) <;> first | assumption | omega | trivial | decide) | (intros; simp only [decide_eq_true_eq, decide_eq_false_iff_not, Bool.and_eq_true, Bool.or_eq_true, Bool.and_eq_false_iff, Bool.or_eq_false_iff, bne_iff_ne, bne_eq_false_iff_eq, Bool.not_eq_true', Bool.not_eq_false', Int.not_lt, Int.not_le] at *; (repeat' refine And.intro ?_ ?_) <;> first | assumption | omega | trivial)))
      | (refine WP.block ?_)
      | (refine WP.cond rfl (fun hc => ?_) (fun hc => ?_) <;> (try simp only [decide_eq_true_eq, decide_eq_false_iff_not, Bool.and_eq_true, Bool.or_eq_true, Bool.and_eq_false_iff, Bool.or_eq_false_iff, Bool.not_eq_true', Bool.not_eq_false', Int.not_lt, Int.not_le, reduceCtorEq, false_and, and_false, false_or, or_false, true_and, and_true, true_or, or_true, not_true_eq_false, not_false_eq_true, beq_iff_eq, beq_eq_false_iff_ne, bne_iff_ne, bne_eq_false_iff_eq, ne_eq, Decidable.not_not] at hc) <;> (try (exact absurd hc (by decide))) <;> (try (exfalso; omega)))
      | (refine WP.skip ?_; simp only [SeqQ, BlkQ, LoopQ, BodyQ, ↓reduceIte, Nat.reduceEqDiff, reduceCtorEq, look, true_and])
      | (refine WP.exit ?_; simp only [SeqQ, BlkQ, LoopQ, BodyQ, ↓reduceIte, Nat.reduceEqDiff, reduceCtorEq, look, true_and])
      | (refine WP.ret (Sm.out ?_))
      | (refine ExG.mk (x := AV.any) (fun hg => absurd hg (by decide)) (Sm.out ?_))
      | (refine Or.inl (ExG.mk (x := AV.any) (fun hg => absurd hg (by decide)) (Sm.out ?_)))
      | (refine Or.inl (And.intro (fun hg => absurd hg (by decide)) (ExG.mk (x := AV.any) (fun hg => absurd hg (by decide)) (Sm.out ?_))))
      | (refine Rt.mk ?_; refine And.intro ?_ ?_ <;> (intro hg; first | exact absurd hg (by decide) | refine Sm.out ?_))
      | (refine Nu.mk ?_; first | ((fail_if_success (have hx := nb1)); intro nb1) | ((fail_if_success (have hx := nb2)); intro nb2) | ((fail_if_success (have hx := nb3)); intro nb3) | ((fail_if_success (have hx := nb4)); intro nb4) | ((fail_if_success (have hx := nb5)); intro nb5) | ((fail_if_success (have hx := nb6)); intro nb6) | ((fail_if_success (have hx := nb7)); intro nb7) | ((fail_if_success (have hx := nb8)); intro nb8) | ((fail_if_success (have hx := nb9)); intro nb9) | ((fail_if_success (have hx := nb10)); intro nb10) | ((fail_if_success (have hx := nb11)); intro nb11) | ((fail_if_success (have hx := nb12)); intro nb12) | ((fail_if_success (have hx := nb13)); intro nb13) | ((fail_if_success (have hx := nb14)); intro nb14))
      | (refine Fr.mk ?_; intro hfr; replace FR := And.intro hfr FR; clear hfr; refine Sm.out ?_)
      | (refine Two.mk ?_ ?_)
      | (refine Cs.mk ?_; intro hcs; first | exact False.elim hcs | (exfalso; omega) | (refine Sm.out ?_))
      | (refine (show VwL _ _ _ from ?_); simp only [VwL, and_true, true_and])
      | exact Vw.same _
      | (refine Vw.row' (by simp only [hget, ↓reduceIte, if_true, if_false, FR, k1, w, wn, wl, wr, hN', k0, f1]; first | done | rfl) ?_ ?_ ?_ ?_)
      | (refine And.intro (Vw.same _) ?_)
      | (refine And.intro (Vw.row' (by simp only [hget, ↓reduceIte, if_true, if_false, FR, k1, w, wn, wl, wr, hN', k0, f1]; first | done | rfl) ?_ ?_ ?_ ?_) ?_)
      | go_step
      | omega
      | (simp only [maxLen_eq]; omega)
    all_goals clear h5 hlt
    all_goals (refine OutQ.all ?_ ?_; (focus (simp only [resv, look, loadv, loadn, loadnm, load1, load1m, hget, maxLen_eq, ↓reduceIte, if_true, if_false, ite_true, ite_false, Nat.reduceEqDiff, Nat.reduceAdd, Nat.reduceMul, Nat.reduceLeDiff, Nat.reduceLT, reduceCtorEq, true_and, and_true, and_self, List.length_cons, List.length_nil, List.length_map, List.length_replicate, List.take_succ_cons, List.take_zero, List.drop_zero, List.drop_succ_cons, List.map_cons, List.map_nil, List.getD_cons_zero, List.getD_cons_succ, Nat.zero_add, Nat.add_zero, Nat.le_refl, Option.some.injEq, ne_eq, tyc0, tyc2, tyc3, tyc4, tyc5, tyc9, tyc22, tyc27, tyc29, tyc33, FR])); (simp only [resv, resA, look, loadv, loadn, loadnm, load1, load1m, hget, maxLen_eq, ↓reduceIte, if_true, if_false, ite_true, ite_false, Nat.reduceEqDiff, Nat.reduceAdd, Nat.reduceMul, Nat.reduceLeDiff, Nat.reduceLT, reduceCtorEq, true_and, and_true, and_self, List.length_cons, List.length_nil, List.length_map, List.length_replicate, List.take_succ_cons, List.take_zero, List.drop_zero, List.drop_succ_cons, List.map_cons, List.map_nil, List.getD_cons_zero, List.getD_cons_succ, Nat.zero_add, Nat.add_zero, Nat.le_refl, Option.some.injEq, ne_eq, tyc0, tyc2, tyc3, tyc4, tyc5, tyc9, tyc22, tyc27, tyc29, tyc33, FR]))
    all_goals (unfold tailF; (repeat' split) <;> first | (exfalso; omega) | (exact absurd (show true = true from rfl) (by assumption)) | (exact absurd (show false = true by assumption) (by decide)) | exact bad3_mk (by first | rfl | (simp; omega)) | exact good3_mk rfl (by first | omega | (simp only [List.length_drop]; omega)) (by first | rfl | (simp; omega)) | exact good3_mk (by first | (rw [wrap_i64 (by omega) (by omega)]; done) | (rw [wrap_i64 (by omega) (by omega)]; rfl)) (by omega) (by first | rfl | (simp; omega)) | exact good3_mk (by first | (rw [hneg (by omega)]; done) | (rw [hneg (by omega)]; rfl)) (by omega) (by first | rfl | (simp; omega)) | trace_state)

end Go.Proofs.Ytkfhekenaogceaa
