/-
  The walks and the laws that the statement leans on, part 6.
-/
import Derived.Test.YtljfldoekamccaaZ5
namespace Go.Proofs.Ytljfldoekamccaa.Wi
open Go
set_option linter.unusedVariables false
set_option linter.unusedSimpArgs false
theorem TFWiA : (((((type_of% tyc3) ∧ (type_of% zmb3)) ∧ ((type_of% tyc4) ∧ (type_of% zmb4))) ∧ (((type_of% tyc5) ∧ (type_of% zmb5)) ∧ ((type_of% tyc9) ∧ ((type_of% zmb9) ∧ (type_of% tyc22))))) ∧ ((((type_of% zmb22) ∧ (type_of% tyc92)) ∧ ((type_of% zmb92) ∧ (type_of% Try.underlying3))) ∧ (((type_of% Try.underlying4) ∧ (type_of% Try.underlying5)) ∧ ((type_of% Try.underlying9) ∧ ((type_of% Try.underlying22) ∧ (type_of% Try.underlying92)))))) :=
  ⟨⟨⟨⟨tyc3, zmb3⟩, ⟨tyc4, zmb4⟩⟩, ⟨⟨tyc5, zmb5⟩, ⟨tyc9, ⟨zmb9, tyc22⟩⟩⟩⟩, ⟨⟨⟨zmb22, tyc92⟩, ⟨zmb92, Try.underlying3⟩⟩, ⟨⟨Try.underlying4, Try.underlying5⟩, ⟨Try.underlying9, ⟨Try.underlying22, Try.underlying92⟩⟩⟩⟩⟩
abbrev nu (n : Nat) : AV := iv .u64 (n : Int)
theorem lenN_shift {k x : Nat} (h : 2 ^ k ≤ x) : lenN x = k + lenN (x / 2 ^ k) := by
  have hx : 0 < x := Nat.lt_of_lt_of_le (Nat.two_pow_pos k) h
  have a : ∀ d, lenN x ≤ k + d ↔ lenN (x / 2 ^ k) ≤ d := fun d => by
    rw [lenN_le, lenN_le, Nat.div_lt_iff_lt_mul (Nat.two_pow_pos k), Nat.pow_add, Nat.mul_comm]
  have b : k ≤ lenN x := by
    apply Classical.byContradiction; intro hk
    have := lenN_le.1 (show lenN x ≤ k - 1 + 0 by omega)
    have h2 : 2 ^ (k - 1 + 0) ≤ 2 ^ k := Nat.pow_le_pow_right (by omega) (by omega)
    omega
  have h1 := (a (lenN (x / 2 ^ k))).2 (Nat.le_refl _)
  have h2 := (a (lenN x - k)).1 (by omega)
  omega
def tab8 : ByteArray := ⟨List.toArray (List.append (List.append [0, 1, 2, 2, 3, 3, 3, 3, 4, 4, 4, 4, 4, 4, 4, 4, 5, 5, 5, 5, 5, 5, 5, 5, 5, 5, 5, 5, 5, 5, 5, 5, 6, 6, 6, 6, 6, 6, 6, 6, 6, 6, 6, 6, 6, 6, 6, 6, 6, 6, 6, 6, 6, 6, 6, 6, 6, 6, 6, 6, 6, 6, 6, 6] [7, 7, 7, 7, 7, 7, 7, 7, 7, 7, 7, 7, 7, 7, 7, 7, 7, 7, 7, 7, 7, 7, 7, 7, 7, 7, 7, 7, 7, 7, 7, 7, 7, 7, 7, 7, 7, 7, 7, 7, 7, 7, 7, 7, 7, 7, 7, 7, 7, 7, 7, 7, 7, 7, 7, 7, 7, 7, 7, 7, 7, 7, 7, 7]) (List.append [8, 8, 8, 8, 8, 8, 8, 8, 8, 8, 8, 8, 8, 8, 8, 8, 8, 8, 8, 8, 8, 8, 8, 8, 8, 8, 8, 8, 8, 8, 8, 8, 8, 8, 8, 8, 8, 8, 8, 8, 8, 8, 8, 8, 8, 8, 8, 8, 8, 8, 8, 8, 8, 8, 8, 8, 8, 8, 8, 8, 8, 8, 8, 8] [8, 8, 8, 8, 8, 8, 8, 8, 8, 8, 8, 8, 8, 8, 8, 8, 8, 8, 8, 8, 8, 8, 8, 8, 8, 8, 8, 8, 8, 8, 8, 8, 8, 8, 8, 8, 8, 8, 8, 8, 8, 8, 8, 8, 8, 8, 8, 8, 8, 8, 8, 8, 8, 8, 8, 8, 8, 8, 8, 8, 8, 8, 8, 8]))⟩
theorem tab8_eq : (⟨List.toArray (List.append (List.append [0, 1, 2, 2, 3, 3, 3, 3, 4, 4, 4, 4, 4, 4, 4, 4, 5, 5, 5, 5, 5, 5, 5, 5, 5, 5, 5, 5, 5, 5, 5, 5, 6, 6, 6, 6, 6, 6, 6, 6, 6, 6, 6, 6, 6, 6, 6, 6, 6, 6, 6, 6, 6, 6, 6, 6, 6, 6, 6, 6, 6, 6, 6, 6] [7, 7, 7, 7, 7, 7, 7, 7, 7, 7, 7, 7, 7, 7, 7, 7, 7, 7, 7, 7, 7, 7, 7, 7, 7, 7, 7, 7, 7, 7, 7, 7, 7, 7, 7, 7, 7, 7, 7, 7, 7, 7, 7, 7, 7, 7, 7, 7, 7, 7, 7, 7, 7, 7, 7, 7, 7, 7, 7, 7, 7, 7, 7, 7]) (List.append [8, 8, 8, 8, 8, 8, 8, 8, 8, 8, 8, 8, 8, 8, 8, 8, 8, 8, 8, 8, 8, 8, 8, 8, 8, 8, 8, 8, 8, 8, 8, 8, 8, 8, 8, 8, 8, 8, 8, 8, 8, 8, 8, 8, 8, 8, 8, 8, 8, 8, 8, 8, 8, 8, 8, 8, 8, 8, 8, 8, 8, 8, 8, 8] [8, 8, 8, 8, 8, 8, 8, 8, 8, 8, 8, 8, 8, 8, 8, 8, 8, 8, 8, 8, 8, 8, 8, 8, 8, 8, 8, 8, 8, 8, 8, 8, 8, 8, 8, 8, 8, 8, 8, 8, 8, 8, 8, 8, 8, 8, 8, 8, 8, 8, 8, 8, 8, 8, 8, 8, 8, 8, 8, 8, 8, 8, 8, 8]))⟩ : ByteArray) = tab8 := rfl
theorem tab8_size : tab8.size = 256 := by decide +kernel
theorem tab8_all : ∀ i : Nat, i < 256 → (tab8.data.toList.getD i 0).toNat = lenN i := by decide +kernel
theorem tab8_at (n : Nat) : (tab8.data.toList.getD (n % 256) 0).toNat = lenN (n % 256) := tab8_all (n % 256) (Nat.mod_lt _ (by omega))
theorem lenN_bd {x d : Nat} (h : x < 2 ^ d) : lenN x ≤ d := lenN_le.2 h
set_option maxHeartbeats 1000000 in
theorem len64_ct (x : Nat) (hx : x < 18446744073709551616) : ACt Try.prog 40 [nu x] [] (Fn (iv .i64 ((lenN x : Nat) : Int))) := by
  refine ACt.intro Try.func40 rfl (by kernel_rfl) (by simp [Try.ntmps40]) (fun cx => ?_)
  simp only [argE, Try.ntmps40, Try.results40]
  have s1 : ∀ n : Nat, (n : Int).fdiv 4294967296 = ((n / 4294967296 : Nat) : Int) := fun n => by rw [Int.fdiv_eq_ediv_of_nonneg _ (by omega)]; simp
  have s2 : ∀ n : Nat, (n : Int).fdiv 65536 = ((n / 65536 : Nat) : Int) := fun n => by rw [Int.fdiv_eq_ediv_of_nonneg _ (by omega)]; simp
  have s3 : ∀ n : Nat, (n : Int).fdiv 256 = ((n / 256 : Nat) : Int) := fun n => by rw [Int.fdiv_eq_ediv_of_nonneg _ (by omega)]; simp
  have w8 : ∀ n : Nat, IntKind.u8.wrap (n : Int) = ((n % 256 : Nat) : Int) := fun n => by rw [wrap_u8_mod]; omega
  have l8 : ∀ n : Nat, lenN (n % 256) ≤ 8 := fun n => lenN_bd (by have := Nat.mod_lt n (show 256 > 0 by omega); omega)
  have wl : ∀ n : Nat, IntKind.i64.wrap ((lenN (n % 256) : Nat) : Int) = ((lenN (n % 256) : Nat) : Int) := fun n => wrap_i64_nat (by have := l8 n; omega)
  have a0 : ∀ n : Nat, IntKind.i64.wrap (0 + ((lenN (n % 256) : Nat) : Int)) = ((lenN (n % 256) : Nat) : Int) := fun n => by rw [Int.zero_add]; exact wl n
  have a : ∀ (k : Int) (n : Nat), 0 ≤ k → k ≤ 1000 → IntKind.i64.wrap (k + ((lenN (n % 256) : Nat) : Int)) = k + ((lenN (n % 256) : Nat) : Int) := fun k n h1 h2 => wrap_i64 (by omega) (by have := l8 n; omega)
  have b1 : IntKind.i64.wrap (32 + 16) = 48 := by decide
  have b2 : IntKind.i64.wrap (48 + 8) = 56 := by decide
  have b3 : IntKind.i64.wrap (32 + 8) = 40 := by decide
  have b4 : IntKind.i64.wrap (0 + 16) = 16 := by decide
  have b5 : IntKind.i64.wrap (16 + 8) = 24 := by decide
  have b6 : IntKind.i64.wrap (0 + 8) = 8 := by decide
  have c8 := fun n => a 8 n (by decide) (by decide)
  have c16 := fun n => a 16 n (by decide) (by decide)
  have c24 := fun n => a 24 n (by decide) (by decide)
  have c32 := fun n => a 32 n (by decide) (by decide)
  have c40 := fun n => a 40 n (by decide) (by decide)
  have c48 := fun n => a 48 n (by decide) (by decide)
  have c56 := fun n => a 56 n (by decide) (by decide)
  have r1 : 4294967296 ≤ x → lenN x = 32 + lenN (x / 4294967296) := lenN_shift (k := 32)
  have r2 : ∀ y, 65536 ≤ y → lenN y = 16 + lenN (y / 65536) := fun y => lenN_shift (k := 16)
  have r3 : ∀ y, 256 ≤ y → lenN y = 8 + lenN (y / 256) := fun y => lenN_shift (k := 8)
  first | (have FRx := FR; clear FRx) | (have FR : ¬ ((1 : Nat) = 0) := Nat.one_ne_zero)
  repeat' first
    | (refine Sm.mk ?_; try simp -dsimp only [ZK, rvc, drawF, headN, pureH, stp, dvc, calleeOf, gcall, pev, eff, newB, okd, og, ogs, ogo, ogp, slv, bltv, opd, litv, strip, one, both, putE, St.put, look, gdOf, gdv, picka, pickv, pickw, binv, bini, bins, binb, binp, bina, shp, eqCells, unv, convv, nilv, faddv, addp, idxav, idxp, load1, load1m, loadn, loadnm, loadv, hget, hset, hrep, hdel, slicev, bnd, shift1, lenv, IntKind.bits, extractv, fieldv, indexv, min2v, max2v, mkiv, cellsA, fillA, buildv, stC, oneC, rowMB, intsA, plN, appE, appZ, appC, appNZ, appNC, VwL, srcC, srcZ, srcM, isBoolT, isPtrT, isSliceT, uOk, Value.oneCell', Nat.reducePow, Int.reducePow, Nat.reduceAdd, Nat.reduceMul, Nat.reduceSub, Nat.reduceLT, Nat.reduceLeDiff, Nat.reduceEqDiff, Nat.reduceBEq, Nat.reduceDiv, Nat.reduceMod, ↓reduceIte, reduceCtorEq, Int.reduceToNat, Int.reduceLT, Int.reduceLE, TFWiA, SeqQ, BlkQ, LoopQ, BodyQ, s1, s2, s3, w8, wl, tab8_eq, tab8_size, tab8_at, a0, b1, b2, b3, b4, b5, b6, c8, c16, c24, c32, c40, c48, c56, FR])
    | (refine WP.seq fun K hK => ?_)
    | (refine WP.region (rvc_sound _ _ (Sm.out ?_)))
    | (refine WP.drawK rfl mixed (by decide +kernel) (Sm.out ?_))
    | (refine Ob.mk ?_; focus (first | assumption | omega | decide | trivial | (intro hob; simp only [hob, ZF]; done) | (intros; (repeat' refine And.intro ?_ ?_) <;> first | assumption | omega | trivial | decide) | (intros; simp only [ZE] at *; (repeat' refine And.intro ?_ ?_) <;> first | assumption | omega | trivial)))
    | (refine And.intro (Ob.out ?_) ?_)
    | (refine WP.block ?_)
    | (refine WP.cond rfl (fun hc => ?_) (fun hc => ?_) <;> (try simp only [ZC, reduceCtorEq, ZD] at hc) <;> (try (exact absurd hc (by decide))) <;> (try (exfalso; omega)))
    | ((first | refine WP.skip ?_ | refine WP.exit ?_); simp only [SeqQ, BlkQ, LoopQ, BodyQ, ↓reduceIte, Nat.reduceEqDiff, reduceCtorEq, look, true_and])
    | (refine WP.ret (Sm.out ?_))
    | (first | refine ExG.no (Sm.out ?_) | refine Or.inl (ExG.no (Sm.out ?_)) | refine Or.inl (And.intro (fun hg => absurd hg (by decide)) (ExG.no (Sm.out ?_))))
    | (refine Rt.mk ?_; refine And.intro ?_ ?_ <;> (intro hg; first | exact absurd hg (by decide) | refine Sm.out ?_))
    | (refine Nu.mk ?_; first | (fail_if_success (have := nb1)); intro nb1 | (fail_if_success (have := nb2)); intro nb2 | (fail_if_success (have := nb3)); intro nb3 | intro nbz)
    | (refine Fr.mk ?_; intro hfr; replace FR := And.intro hfr FR; clear hfr; refine Sm.out ?_)
    | (refine Two.mk ?_ ?_)
    | (refine Cs.mk ?_; intro hcs; first | exact False.elim hcs | (exfalso; omega) | (refine Sm.out ?_))
    | go_step
    | omega
    | (simp only [maxLen_eq]; omega)
  all_goals (refine OutQ.all ?_ ?_; (focus (simp only [resv, ZK, look, loadv, loadn, loadnm, load1, load1m, hget, ↓reduceIte, Nat.reduceEqDiff, Nat.reduceAdd, Nat.reduceMul, Nat.reduceLeDiff, Nat.reduceLT, reduceCtorEq, TFWiA])); (try simp only [resv, resA, Fn, ZK, look, loadv, loadn, loadnm, load1, load1m, hget, ↓reduceIte, Nat.reduceEqDiff, Nat.reduceAdd, Nat.reduceMul, Nat.reduceLeDiff, Nat.reduceLT, reduceCtorEq, TFWiA]); (try simp [resA, Fn, look]))
  all_goals
    first
    | (rw [Nat.mod_eq_of_lt (by omega)]; done)
    | (rw [Nat.mod_eq_of_lt (by omega)]
       have q1 := r2 x
       have q2 := r2 (x / 4294967296)
       have q3 := r3 x
       have q4 := r3 (x / 4294967296)
       have q5 := r3 (x / 65536)
       have q6 := r3 (x / 4294967296 / 65536)
       omega)
end Go.Proofs.Ytljfldoekamccaa.Wi
namespace Go.Proofs.Ytljfldoekamccaa.Wi
open Go
set_option linter.unusedVariables false
set_option linter.unusedSimpArgs false
theorem TFWiB : (((((type_of% tyc3) ∧ (type_of% zmb3)) ∧ ((type_of% tyc4) ∧ (type_of% zmb4))) ∧ (((type_of% tyc5) ∧ (type_of% zmb5)) ∧ ((type_of% tyc22) ∧ ((type_of% zmb22) ∧ (type_of% tyc38))))) ∧ ((((type_of% elt38) ∧ (type_of% mkz38)) ∧ ((type_of% apT38) ∧ ((type_of% elk38) ∧ (type_of% zmb38)))) ∧ (((type_of% Try.underlying3) ∧ (type_of% Try.underlying4)) ∧ ((type_of% Try.underlying5) ∧ ((type_of% Try.underlying22) ∧ (type_of% Try.underlying38)))))) :=
  ⟨⟨⟨⟨tyc3, zmb3⟩, ⟨tyc4, zmb4⟩⟩, ⟨⟨tyc5, zmb5⟩, ⟨tyc22, ⟨zmb22, tyc38⟩⟩⟩⟩, ⟨⟨⟨elt38, mkz38⟩, ⟨apT38, ⟨elk38, zmb38⟩⟩⟩, ⟨⟨Try.underlying3, Try.underlying4⟩, ⟨Try.underlying5, ⟨Try.underlying22, Try.underlying38⟩⟩⟩⟩⟩
theorem size_ct (x : Nat) (hx : x < 18446744073709551616) : ACt Try.prog 38 [nu x] [] (Fn (iv .i64 (((lenN x + 7) / 8 : Nat) : Int))) := by
  refine ACt.intro Try.func38 rfl (by kernel_rfl) (by simp [Try.ntmps38]) (fun cx => ?_)
  simp only [argE, Try.ntmps38, Try.results38]
  have h1 : lenN x ≤ 64 := lenN_le.2 hx
  have e1 : IntKind.i64.wrap (((lenN x : Nat) : Int) + 7) = ((lenN x + 7 : Nat) : Int) := by rw [wrap_i64 (by omega) (by omega)]; omega
  have e2 : ((lenN x + 7 : Nat) : Int).tdiv 8 = (((lenN x + 7) / 8 : Nat) : Int) := by rw [Int.tdiv_eq_ediv_of_nonneg (by omega)]; simp
  have e3 : IntKind.i64.wrap (((lenN x + 7) / 8 : Nat) : Int) = (((lenN x + 7) / 8 : Nat) : Int) := wrap_i64_nat (by omega)
  first | (have FRx := FR; clear FRx) | (have FR : ¬ ((1 : Nat) = 0) := Nat.one_ne_zero)
  repeat' first
    | (refine Sm.mk ?_; try simp -dsimp only [ZK, rvc, drawF, headN, pureH, stp, dvc, calleeOf, gcall, pev, eff, newB, okd, og, ogs, ogo, ogp, slv, bltv, opd, litv, strip, one, both, putE, St.put, look, gdOf, gdv, picka, pickv, pickw, binv, bini, bins, binb, binp, bina, shp, eqCells, unv, convv, nilv, faddv, addp, idxav, idxp, load1, load1m, loadn, loadnm, loadv, hget, hset, hrep, hdel, slicev, bnd, shift1, lenv, IntKind.bits, extractv, fieldv, indexv, min2v, max2v, mkiv, cellsA, fillA, buildv, stC, oneC, rowMB, intsA, plN, appE, appZ, appC, appNZ, appNC, VwL, srcC, srcZ, srcM, isBoolT, isPtrT, isSliceT, uOk, Value.oneCell', Nat.reducePow, Int.reducePow, Nat.reduceAdd, Nat.reduceMul, Nat.reduceSub, Nat.reduceLT, Nat.reduceLeDiff, Nat.reduceEqDiff, Nat.reduceBEq, Nat.reduceDiv, Nat.reduceMod, ↓reduceIte, reduceCtorEq, Int.reduceToNat, Int.reduceLT, Int.reduceLE, TFWiB, SeqQ, BlkQ, LoopQ, BodyQ, e1, e2, e3, FR])
    | (first | refine CallV.fn (len64_ct x hx) (Sm.out ?_) | refine ExF.mk (len64_ct x hx) (Sm.out ?_) | refine ExG.mk (fun _ => len64_ct x hx) (Sm.out ?_) | refine ExG.mkJ (fun _ => len64_ct x hx) (Sm.out ?_) | refine ExG.mkI (Ob.out ?_) (fun _ => len64_ct x hx) (Sm.out ?_))
    | (refine WP.seq fun K hK => ?_)
    | (refine WP.region (rvc_sound _ _ (Sm.out ?_)))
    | (refine WP.drawK rfl mixed (by decide +kernel) (Sm.out ?_))
    | (refine Ob.mk ?_; focus (first | assumption | omega | decide | trivial | (intro hob; simp only [hob, ZF]; done) | (intros; (repeat' refine And.intro ?_ ?_) <;> first | assumption | omega | trivial | decide) | (intros; simp only [ZE] at *; (repeat' refine And.intro ?_ ?_) <;> first | assumption | omega | trivial)))
    | (refine And.intro (Ob.out ?_) ?_)
    | (refine WP.block ?_)
    | (refine WP.cond rfl (fun hc => ?_) (fun hc => ?_) <;> (try simp only [ZC, reduceCtorEq, ZD] at hc) <;> (try (exact absurd hc (by decide))) <;> (try (exfalso; omega)))
    | ((first | refine WP.skip ?_ | refine WP.exit ?_); simp only [SeqQ, BlkQ, LoopQ, BodyQ, ↓reduceIte, Nat.reduceEqDiff, reduceCtorEq, look, true_and])
    | (refine WP.ret (Sm.out ?_))
    | (first | refine ExG.no (Sm.out ?_) | refine Or.inl (ExG.no (Sm.out ?_)) | refine Or.inl (And.intro (fun hg => absurd hg (by decide)) (ExG.no (Sm.out ?_))))
    | (refine Rt.mk ?_; refine And.intro ?_ ?_ <;> (intro hg; first | exact absurd hg (by decide) | refine Sm.out ?_))
    | (refine Nu.mk ?_; first | (fail_if_success (have := nb1)); intro nb1 | (fail_if_success (have := nb2)); intro nb2 | (fail_if_success (have := nb3)); intro nb3 | (fail_if_success (have := nb4)); intro nb4 | (fail_if_success (have := nb5)); intro nb5 | (fail_if_success (have := nb6)); intro nb6 | intro nbz)
    | (refine Fr.mk ?_; intro hfr; replace FR := And.intro hfr FR; clear hfr; refine Sm.out ?_)
    | (refine Two.mk ?_ ?_)
    | (refine Cs.mk ?_; intro hcs; first | exact False.elim hcs | (exfalso; omega) | (refine Sm.out ?_))
    | (refine OutQ.all ?_ ?_; (focus (simp only [resv, ZK, look, loadv, loadn, loadnm, load1, load1m, hget, ↓reduceIte, Nat.reduceEqDiff, Nat.reduceAdd, Nat.reduceMul, Nat.reduceLeDiff, Nat.reduceLT, reduceCtorEq, TFWiB, e1, e2, e3, FR])); (try simp only [resv, resA, Fn, ZK, look, loadv, loadn, loadnm, load1, load1m, hget, ↓reduceIte, Nat.reduceEqDiff, Nat.reduceAdd, Nat.reduceMul, Nat.reduceLeDiff, Nat.reduceLT, reduceCtorEq, TFWiB, e1, e2, e3, FR]); (try simp [resA, Fn, look, e1, e2, e3, FR]); done)
    | go_step
    | omega
    | (simp only [maxLen_eq]; omega)
    | (refine Or.inr (Rt.mk ?_); refine And.intro ?_ ?_ <;> (intro hg; first | exact absurd hg (by decide) | refine Sm.out ?_))
/-- the bytes of a number, the last k of them -/
def byteL (n : Nat) : Nat → List Int
  | 0 => []
  | k + 1 => ((n / 256 ^ k % 256 : Nat) : Int) :: byteL n k
theorem byteL_len (n : Nat) : ∀ k, (byteL n k).length = k
  | 0 => rfl
  | k + 1 => by simp [byteL, byteL_len n k]
def putL (s : Int) (n : Nat) : List Int := ibit .or .u8 s (((lenN n + 7) / 8 : Nat) : Int) :: byteL n ((lenN n + 7) / 8)
structure UG where
  k : Nat
  acc : List Int
  b : Nat
  cap : Nat
end Go.Proofs.Ytljfldoekamccaa.Wi
namespace Go.Proofs.Ytljfldoekamccaa.Wi
open Go
set_option linter.unusedVariables false
set_option linter.unusedSimpArgs false
theorem TFWiP : (((((type_of% tyc3) ∧ (type_of% zmb3)) ∧ ((type_of% tyc4) ∧ (type_of% zmb4))) ∧ (((type_of% tyc5) ∧ (type_of% zmb5)) ∧ ((type_of% tyc22) ∧ ((type_of% zmb22) ∧ (type_of% tyc38))))) ∧ ((((type_of% elt38) ∧ (type_of% mkz38)) ∧ ((type_of% apT38) ∧ ((type_of% elk38) ∧ (type_of% zmb38)))) ∧ (((type_of% Try.underlying3) ∧ (type_of% Try.underlying4)) ∧ ((type_of% Try.underlying5) ∧ ((type_of% Try.underlying22) ∧ (type_of% Try.underlying38)))))) :=
  ⟨⟨⟨⟨tyc3, zmb3⟩, ⟨tyc4, zmb4⟩⟩, ⟨⟨tyc5, zmb5⟩, ⟨tyc22, ⟨zmb22, tyc38⟩⟩⟩⟩, ⟨⟨⟨elt38, mkz38⟩, ⟨apT38, ⟨elk38, zmb38⟩⟩⟩, ⟨⟨Try.underlying3, Try.underlying4⟩, ⟨Try.underlying5, ⟨Try.underlying22, Try.underlying38⟩⟩⟩⟩⟩
theorem putL_len (s : Int) (n : Nat) (hn : n < 18446744073709551616) : (putL s n).length ≤ 9 := by
  have h1 : lenN n ≤ 64 := lenN_le.2 hn
  unfold putL; simp [byteL_len]; omega
set_option maxRecDepth 8000 in
set_option maxHeartbeats 1000000 in
theorem put_ct (b0 cap0 : Nat) (zs : List Int) (s : Int) (n : Nat) (hz : zs.length ≤ 100000) (hc1 : zs.length ≤ cap0) (hc2 : cap0 ≤ 9223372036854775807) (hn : n < 18446744073709551616) :
    ACt Try.prog 34 [ms b0 0 zs.length cap0, iv .u8 s, nu n] [(b0, .zs .u8 zs cap0 5)] (Row .u8 5 (zs ++ putL s n)) := by
  refine ACt.intro Try.func34 rfl (by kernel_rfl) (by simp [Try.ntmps34]) (fun cx => ?_)
  simp only [argE, Try.ntmps34, Try.results34]
  have h1 : lenN n ≤ 64 := lenN_le.2 hn
  obtain ⟨kk, hkk⟩ : ∃ kk, kk = (lenN n + 7) / 8 := ⟨_, rfl⟩
  have hkk8 : kk ≤ 8 := by omega
  have c1 := size_ct n hn
  rw [← hkk] at c1
  have w1 : IntKind.u8.wrap (kk : Int) = (kk : Int) := wrap_u8 (by omega) (by omega)
  obtain ⟨h, hh⟩ : ∃ h, h = ibit .or .u8 s (kk : Int) := ⟨_, rfl⟩
  obtain ⟨T, hT⟩ : ∃ T, T = zs ++ [h] := ⟨_, rfl⟩
  have hT' : zs ++ [h] = T := hT.symm
  have lT : T.length = zs.length + 1 := by rw [hT]; simp
  have hp : zs ++ putL s n = T ++ byteL n kk := by unfold putL; rw [← hkk, ← hh, hT]; simp
  have hh' : ibit .or .u8 s (kk : Int) = h := hh.symm
  first | (have FRx := FR; clear FRx) | (have FR : ¬ ((1 : Nat) = 0) := Nat.one_ne_zero)
  repeat' first
    | (refine Sm.mk ?_; try simp -dsimp only [ZK, rvc, drawF, headN, pureH, stp, dvc, calleeOf, gcall, pev, eff, newB, okd, og, ogs, ogo, ogp, slv, bltv, opd, litv, strip, one, both, putE, St.put, look, gdOf, gdv, picka, pickv, pickw, binv, bini, bins, binb, binp, bina, shp, eqCells, unv, convv, nilv, faddv, addp, idxav, idxp, load1, load1m, loadn, loadnm, loadv, hget, hset, hrep, hdel, slicev, bnd, shift1, lenv, IntKind.bits, extractv, fieldv, indexv, min2v, max2v, mkiv, cellsA, fillA, buildv, stC, oneC, rowMB, intsA, plN, appE, appZ, appC, appNZ, appNC, VwL, srcC, srcZ, srcM, isBoolT, isPtrT, isSliceT, uOk, Value.oneCell', Nat.reducePow, Int.reducePow, Nat.reduceAdd, Nat.reduceMul, Nat.reduceSub, Nat.reduceLT, Nat.reduceLeDiff, Nat.reduceEqDiff, Nat.reduceBEq, Nat.reduceDiv, Nat.reduceMod, ↓reduceIte, reduceCtorEq, Int.reduceToNat, Int.reduceLT, Int.reduceLE, TFWiP, SeqQ, BlkQ, LoopQ, BodyQ, w1, hh', hT', FR])
    | (refine CallV.row (by simp only [hget, ↓reduceIte, FR, w1, hh', hT']; first | done | rfl) (c1) (Sm.out ?_))
    | (refine CallV.mkrow (c1) (Sm.out ?_))
    | (refine CallV.upd (by simp only [hget, ↓reduceIte, FR, w1, hh', hT']; first | done | rfl) (c1) (Sm.out ?_))
    | (refine CallV.mkobj (c1) (Sm.out ?_))
    | (first | refine CallV.fn (c1) (Sm.out ?_) | refine ExF.mk (c1) (Sm.out ?_) | refine ExG.mk (fun _ => c1) (Sm.out ?_) | refine ExG.mkJ (fun _ => c1) (Sm.out ?_) | refine ExG.mkI (Ob.out ?_) (fun _ => c1) (Sm.out ?_))
    | (refine WP.seq fun K hK => ?_)
    | (refine WP.region (rvc_sound _ _ (Sm.out ?_)))
    | (refine WP.drawK rfl mixed (by decide +kernel) (Sm.out ?_))
    | (refine Ob.mk ?_; focus (first | assumption | omega | decide | trivial | (intro hob; simp only [hob, ZF]; done) | (intros; (repeat' refine And.intro ?_ ?_) <;> first | assumption | omega | trivial | decide) | (intros; simp only [ZE] at *; (repeat' refine And.intro ?_ ?_) <;> first | assumption | omega | trivial)))
    | (refine And.intro (Ob.out ?_) ?_)
    | (refine WP.block ?_)
    | (refine WP.cond rfl (fun hc => ?_) (fun hc => ?_) <;> (try simp only [ZC, reduceCtorEq, ZD] at hc) <;> (try (exact absurd hc (by decide))) <;> (try (exfalso; omega)))
    | ((first | refine WP.skip ?_ | refine WP.exit ?_); simp only [SeqQ, BlkQ, LoopQ, BodyQ, ↓reduceIte, Nat.reduceEqDiff, reduceCtorEq, look, true_and])
    | (refine WP.ret (Sm.out ?_))
    | (first | refine ExG.no (Sm.out ?_) | refine Or.inl (ExG.no (Sm.out ?_)) | refine Or.inl (And.intro (fun hg => absurd hg (by decide)) (ExG.no (Sm.out ?_))))
    | (refine Rt.mk ?_; refine And.intro ?_ ?_ <;> (intro hg; first | exact absurd hg (by decide) | refine Sm.out ?_))
    | (refine Nu.mk ?_; first | (fail_if_success (have := nb1)); intro nb1 | (fail_if_success (have := nb2)); intro nb2 | (fail_if_success (have := nb3)); intro nb3 | (fail_if_success (have := nb4)); intro nb4 | (fail_if_success (have := nb5)); intro nb5 | (fail_if_success (have := nb6)); intro nb6 | intro nbz)
    | (refine Fr.mk ?_; intro hfr; replace FR := And.intro hfr FR; clear hfr; refine Sm.out ?_)
    | (refine Two.mk ?_ ?_)
    | (refine Cs.mk ?_; intro hcs; first | exact False.elim hcs | (exfalso; omega) | (refine Sm.out ?_))
    | go_step
    | omega
    | (simp only [maxLen_eq]; omega)
    | (refine Or.inr (Rt.mk ?_); refine And.intro ?_ ?_ <;> (intro hg; first | exact absurd hg (by decide) | refine Sm.out ?_))
  refine WP.loop (Γ := UG) (fun g => ⟨[(7, iv .i64 g.k), (0, ms g.b 0 g.acc.length g.cap), (2, nu n)], [(g.b, .zs .u8 g.acc g.cap 5)]⟩)
    (fun g => g.acc ++ byteL n g.k = T ++ byteL n kk ∧ g.k ≤ kk ∧ g.acc.length + g.k ≤ 100009 ∧ g.acc.length ≤ g.cap ∧ g.cap ≤ 9223372036854775807) (fun g => g.k) ⟨kk, T, nb2, nb3⟩
    ⟨by simp, by simp, by simp only; omega, by simp only; omega, by simp only; omega⟩ (Sub.pick (by simp [pickB, hget, hdel, FR, lT]) (by simp [look, lT])) ?_
  intro ⟨k, acc, b, cap⟩ ⟨g1, g2, g4, g5, g6⟩
  simp only at g1 g2 g4 g5 g6 ⊢
  (refine WP.nd fun hnd => ?_; simp only [ndF, fresh_cons, fresh_nil, and_true, ne_eq] at hnd; replace FR := And.intro hnd FR; clear hnd)
  cases k with
  | zero =>
    have k1 : decide (((0 : Nat) : Int) > 0) = false := by decide
    rw [byteL, List.append_nil] at g1
    first | (have FRx := FR; clear FRx) | (have FR : ¬ ((1 : Nat) = 0) := Nat.one_ne_zero)
    repeat' first
      | (refine Sm.mk ?_; try simp -dsimp only [ZK, rvc, drawF, headN, pureH, stp, dvc, calleeOf, gcall, pev, eff, newB, okd, og, ogs, ogo, ogp, slv, bltv, opd, litv, strip, one, both, putE, St.put, look, gdOf, gdv, picka, pickv, pickw, binv, bini, bins, binb, binp, bina, shp, eqCells, unv, convv, nilv, faddv, addp, idxav, idxp, load1, load1m, loadn, loadnm, loadv, hget, hset, hrep, hdel, slicev, bnd, shift1, lenv, IntKind.bits, extractv, fieldv, indexv, min2v, max2v, mkiv, cellsA, fillA, buildv, stC, oneC, rowMB, intsA, plN, appE, appZ, appC, appNZ, appNC, VwL, srcC, srcZ, srcM, isBoolT, isPtrT, isSliceT, uOk, Value.oneCell', Nat.reducePow, Int.reducePow, Nat.reduceAdd, Nat.reduceMul, Nat.reduceSub, Nat.reduceLT, Nat.reduceLeDiff, Nat.reduceEqDiff, Nat.reduceBEq, Nat.reduceDiv, Nat.reduceMod, ↓reduceIte, reduceCtorEq, Int.reduceToNat, Int.reduceLT, Int.reduceLE, TFWiP, SeqQ, BlkQ, LoopQ, BodyQ, k1, FR])
      | (refine WP.seq fun K hK => ?_)
      | (refine WP.region (rvc_sound _ _ (Sm.out ?_)))
      | (refine WP.drawK rfl mixed (by decide +kernel) (Sm.out ?_))
      | (refine Ob.mk ?_; focus (first | assumption | omega | decide | trivial | (intro hob; simp only [hob, ZF]; done) | (intros; (repeat' refine And.intro ?_ ?_) <;> first | assumption | omega | trivial | decide) | (intros; simp only [ZE] at *; (repeat' refine And.intro ?_ ?_) <;> first | assumption | omega | trivial)))
      | (refine And.intro (Ob.out ?_) ?_)
      | (refine WP.block ?_)
      | (refine WP.cond rfl (fun hc => ?_) (fun hc => ?_) <;> (try simp only [ZC, reduceCtorEq, ZD] at hc) <;> (try (exact absurd hc (by decide))) <;> (try (exfalso; omega)))
      | ((first | refine WP.skip ?_ | refine WP.exit ?_); simp only [SeqQ, BlkQ, LoopQ, BodyQ, ↓reduceIte, Nat.reduceEqDiff, reduceCtorEq, look, true_and])
      | (refine WP.ret (Sm.out ?_))
      | (first | refine ExG.no (Sm.out ?_) | refine Or.inl (ExG.no (Sm.out ?_)) | refine Or.inl (And.intro (fun hg => absurd hg (by decide)) (ExG.no (Sm.out ?_))))
      | (refine Rt.mk ?_; refine And.intro ?_ ?_ <;> (intro hg; first | exact absurd hg (by decide) | refine Sm.out ?_))
      | (refine Nu.mk ?_; first | (fail_if_success (have := nb1)); intro nb1 | (fail_if_success (have := nb2)); intro nb2 | (fail_if_success (have := nb3)); intro nb3 | (fail_if_success (have := nb4)); intro nb4 | (fail_if_success (have := nb5)); intro nb5 | (fail_if_success (have := nb6)); intro nb6 | intro nbz)
      | (refine Fr.mk ?_; intro hfr; replace FR := And.intro hfr FR; clear hfr; refine Sm.out ?_)
      | (refine Two.mk ?_ ?_)
      | (refine Cs.mk ?_; intro hcs; first | exact False.elim hcs | (exfalso; omega) | (refine Sm.out ?_))
      | go_step
      | omega
      | (simp only [maxLen_eq]; omega)
      | (refine Or.inr (Rt.mk ?_); refine And.intro ?_ ?_ <;> (intro hg; first | exact absurd hg (by decide) | refine Sm.out ?_))
    (refine OutQ.row (by simp only [resv, ZK, look, loadv, loadn, loadnm, load1, load1m, hget, ↓reduceIte, Nat.reduceEqDiff, Nat.reduceAdd, Nat.reduceMul, Nat.reduceLeDiff, Nat.reduceLT, reduceCtorEq, TFWiP, FR]) (by simp only [resv, resA, ZK, look, loadv, loadn, loadnm, load1, load1m, hget, ↓reduceIte, Nat.reduceEqDiff, Nat.reduceAdd, Nat.reduceMul, Nat.reduceLeDiff, Nat.reduceLT, reduceCtorEq, TFWiP, FR]; first | done | rfl) (by simp only [hget, ↓reduceIte, if_true, if_false, FR]; first | done | rfl) ?_ ?_ ?_ ?_ <;> first | omega | (simp only [maxLen_eq]; omega) | skip)
    all_goals first | omega | (rw [hp, g1]; done) | (simp [hp, ← g1]; done)
  | succ k' =>
    have k1 : decide (((k' + 1 : Nat) : Int) > 0) = true := decide_eq_true (by omega)
    have e1 : IntKind.i64.wrap (((k' + 1 : Nat) : Int) - 1) = (k' : Int) := by rw [wrap_i64 (by omega) (by omega)]; try omega
    have e2 : IntKind.i64.wrap (8 * (k' : Int)) = ((8 * k' : Nat) : Int) := by rw [wrap_i64 (by omega) (by omega)]; try omega
    have e3 : 8 * k' ≤ 64 := by omega
    have e4 : (n : Int).fdiv (2 ^ (8 * k')) = ((n / 256 ^ k' : Nat) : Int) := by
      rw [Int.fdiv_eq_ediv_of_nonneg _ (by exact Int.le_of_lt (Int.pow_pos (by omega))), show (256 : Nat) = 2 ^ 8 from rfl, ← Nat.pow_mul]
      simp
    have e5 : IntKind.u8.wrap ((n / 256 ^ k' : Nat) : Int) = ((n / 256 ^ k' % 256 : Nat) : Int) := by rw [wrap_u8_mod]; omega
    obtain ⟨acc', ha⟩ : ∃ acc', acc' = acc ++ [((n / 256 ^ k' % 256 : Nat) : Int)] := ⟨_, rfl⟩
    have e6 : acc ++ [((n / 256 ^ k' % 256 : Nat) : Int)] = acc' := ha.symm
    have e7 : acc'.length = acc.length + 1 := by rw [ha]; simp
    first | (have FRx := FR; clear FRx) | (have FR : ¬ ((1 : Nat) = 0) := Nat.one_ne_zero)
    repeat' first
      | (refine Sm.mk ?_; try simp -dsimp only [ZK, rvc, drawF, headN, pureH, stp, dvc, calleeOf, gcall, pev, eff, newB, okd, og, ogs, ogo, ogp, slv, bltv, opd, litv, strip, one, both, putE, St.put, look, gdOf, gdv, picka, pickv, pickw, binv, bini, bins, binb, binp, bina, shp, eqCells, unv, convv, nilv, faddv, addp, idxav, idxp, load1, load1m, loadn, loadnm, loadv, hget, hset, hrep, hdel, slicev, bnd, shift1, lenv, IntKind.bits, extractv, fieldv, indexv, min2v, max2v, mkiv, cellsA, fillA, buildv, stC, oneC, rowMB, intsA, plN, appE, appZ, appC, appNZ, appNC, VwL, srcC, srcZ, srcM, isBoolT, isPtrT, isSliceT, uOk, Value.oneCell', Nat.reducePow, Int.reducePow, Nat.reduceAdd, Nat.reduceMul, Nat.reduceSub, Nat.reduceLT, Nat.reduceLeDiff, Nat.reduceEqDiff, Nat.reduceBEq, Nat.reduceDiv, Nat.reduceMod, ↓reduceIte, reduceCtorEq, Int.reduceToNat, Int.reduceLT, Int.reduceLE, TFWiP, SeqQ, BlkQ, LoopQ, BodyQ, k1, e1, e2, e3, e4, e5, e6, FR])
      | (refine WP.seq fun K hK => ?_)
      | (refine WP.region (rvc_sound _ _ (Sm.out ?_)))
      | (refine WP.drawK rfl mixed (by decide +kernel) (Sm.out ?_))
      | (refine Ob.mk ?_; focus (first | assumption | omega | decide | trivial | (intro hob; simp only [hob, ZF]; done) | (intros; (repeat' refine And.intro ?_ ?_) <;> first | assumption | omega | trivial | decide) | (intros; simp only [ZE] at *; (repeat' refine And.intro ?_ ?_) <;> first | assumption | omega | trivial)))
      | (refine And.intro (Ob.out ?_) ?_)
      | (refine WP.block ?_)
      | (refine WP.cond rfl (fun hc => ?_) (fun hc => ?_) <;> (try simp only [ZC, reduceCtorEq, ZD] at hc) <;> (try (exact absurd hc (by decide))) <;> (try (exfalso; omega)))
      | ((first | refine WP.skip ?_ | refine WP.exit ?_); simp only [SeqQ, BlkQ, LoopQ, BodyQ, ↓reduceIte, Nat.reduceEqDiff, reduceCtorEq, look, true_and])
      | (refine WP.ret (Sm.out ?_))
      | (first | refine ExG.no (Sm.out ?_) | refine Or.inl (ExG.no (Sm.out ?_)) | refine Or.inl (And.intro (fun hg => absurd hg (by decide)) (ExG.no (Sm.out ?_))))
      | (refine Rt.mk ?_; refine And.intro ?_ ?_ <;> (intro hg; first | exact absurd hg (by decide) | refine Sm.out ?_))
      | (refine Nu.mk ?_; first | (fail_if_success (have := nb1)); intro nb1 | (fail_if_success (have := nb2)); intro nb2 | (fail_if_success (have := nb3)); intro nb3 | (fail_if_success (have := nb4)); intro nb4 | (fail_if_success (have := nb5)); intro nb5 | (fail_if_success (have := nb6)); intro nb6 | intro nbz)
      | (refine Fr.mk ?_; intro hfr; replace FR := And.intro hfr FR; clear hfr; refine Sm.out ?_)
      | (refine Two.mk ?_ ?_)
      | (refine Cs.mk ?_; intro hcs; first | exact False.elim hcs | (exfalso; omega) | (refine Sm.out ?_))
      | go_step
      | omega
      | (simp only [maxLen_eq]; omega)
      | (refine Or.inr (Rt.mk ?_); refine And.intro ?_ ?_ <;> (intro hg; first | exact absurd hg (by decide) | refine Sm.out ?_))
    refine ⟨⟨k', acc', nb5, nb6⟩, ⟨?_, by simp only; omega, by simp only; omega, by simp only; omega, by simp only; omega⟩, by simp only; omega, (Sub.pick (by simp [pickB, hget, hdel, FR, e7]) (by simp [look, e7]))⟩
    simp only
    rw [← g1, ha, byteL, List.append_assoc]; rfl
theorem num_ct (b0 cap0 : Nat) (zs : List Int) (n : Nat) (hz : zs.length ≤ 100000) (hc1 : zs.length ≤ cap0) (hc2 : cap0 ≤ 9223372036854775807) (hn : n < 18446744073709551616) :
    ACt Try.prog 27 [ms b0 0 zs.length cap0, nu n] [(b0, .zs .u8 zs cap0 5)] (Row .u8 5 (zs ++ putL 0 n)) := by
  refine ACt.intro Try.func27 rfl (by kernel_rfl) (by simp [Try.ntmps27]) (fun cx => ?_)
  simp only [argE, Try.ntmps27, Try.results27]
  have c1 := put_ct b0 cap0 zs 0 n hz hc1 hc2 hn
  obtain ⟨T, hT⟩ : ∃ T, T = zs ++ putL 0 n := ⟨_, rfl⟩
  rw [← hT] at c1 ⊢
  first | (have FRx := FR; clear FRx) | (have FR : ¬ ((1 : Nat) = 0) := Nat.one_ne_zero)
  repeat' first
    | (refine Sm.mk ?_; try simp -dsimp only [ZK, rvc, drawF, headN, pureH, stp, dvc, calleeOf, gcall, pev, eff, newB, okd, og, ogs, ogo, ogp, slv, bltv, opd, litv, strip, one, both, putE, St.put, look, gdOf, gdv, picka, pickv, pickw, binv, bini, bins, binb, binp, bina, shp, eqCells, unv, convv, nilv, faddv, addp, idxav, idxp, load1, load1m, loadn, loadnm, loadv, hget, hset, hrep, hdel, slicev, bnd, shift1, lenv, IntKind.bits, extractv, fieldv, indexv, min2v, max2v, mkiv, cellsA, fillA, buildv, stC, oneC, rowMB, intsA, plN, appE, appZ, appC, appNZ, appNC, VwL, srcC, srcZ, srcM, isBoolT, isPtrT, isSliceT, uOk, Value.oneCell', Nat.reducePow, Int.reducePow, Nat.reduceAdd, Nat.reduceMul, Nat.reduceSub, Nat.reduceLT, Nat.reduceLeDiff, Nat.reduceEqDiff, Nat.reduceBEq, Nat.reduceDiv, Nat.reduceMod, ↓reduceIte, reduceCtorEq, Int.reduceToNat, Int.reduceLT, Int.reduceLE, TFWiP, SeqQ, BlkQ, LoopQ, BodyQ, FR])
    | (refine CallV.row (by simp only [hget, ↓reduceIte, FR]; first | done | rfl) (c1) (Sm.out ?_))
    | (refine CallV.mkrow (c1) (Sm.out ?_))
    | (refine CallV.upd (by simp only [hget, ↓reduceIte, FR]; first | done | rfl) (c1) (Sm.out ?_))
    | (refine CallV.mkobj (c1) (Sm.out ?_))
    | (first | refine CallV.fn (c1) (Sm.out ?_) | refine ExF.mk (c1) (Sm.out ?_) | refine ExG.mk (fun _ => c1) (Sm.out ?_) | refine ExG.mkJ (fun _ => c1) (Sm.out ?_) | refine ExG.mkI (Ob.out ?_) (fun _ => c1) (Sm.out ?_))
    | (refine WP.seq fun K hK => ?_)
    | (refine WP.region (rvc_sound _ _ (Sm.out ?_)))
    | (refine WP.drawK rfl mixed (by decide +kernel) (Sm.out ?_))
    | (refine Ob.mk ?_; focus (first | assumption | omega | decide | trivial | (intro hob; simp only [hob, ZF]; done) | (intros; (repeat' refine And.intro ?_ ?_) <;> first | assumption | omega | trivial | decide) | (intros; simp only [ZE] at *; (repeat' refine And.intro ?_ ?_) <;> first | assumption | omega | trivial)))
    | (refine And.intro (Ob.out ?_) ?_)
    | (refine WP.block ?_)
    | (refine WP.cond rfl (fun hc => ?_) (fun hc => ?_) <;> (try simp only [ZC, reduceCtorEq, ZD] at hc) <;> (try (exact absurd hc (by decide))) <;> (try (exfalso; omega)))
    | ((first | refine WP.skip ?_ | refine WP.exit ?_); simp only [SeqQ, BlkQ, LoopQ, BodyQ, ↓reduceIte, Nat.reduceEqDiff, reduceCtorEq, look, true_and])
    | (refine WP.ret (Sm.out ?_))
    | (first | refine ExG.no (Sm.out ?_) | refine Or.inl (ExG.no (Sm.out ?_)) | refine Or.inl (And.intro (fun hg => absurd hg (by decide)) (ExG.no (Sm.out ?_))))
    | (refine Rt.mk ?_; refine And.intro ?_ ?_ <;> (intro hg; first | exact absurd hg (by decide) | refine Sm.out ?_))
    | (refine Nu.mk ?_; first | (fail_if_success (have := nb1)); intro nb1 | (fail_if_success (have := nb2)); intro nb2 | (fail_if_success (have := nb3)); intro nb3 | (fail_if_success (have := nb4)); intro nb4 | (fail_if_success (have := nb5)); intro nb5 | (fail_if_success (have := nb6)); intro nb6 | intro nbz)
    | (refine Fr.mk ?_; intro hfr; replace FR := And.intro hfr FR; clear hfr; refine Sm.out ?_)
    | (refine Two.mk ?_ ?_)
    | (refine Cs.mk ?_; intro hcs; first | exact False.elim hcs | (exfalso; omega) | (refine Sm.out ?_))
    | go_step
    | omega
    | (simp only [maxLen_eq]; omega)
    | (refine Or.inr (Rt.mk ?_); refine And.intro ?_ ?_ <;> (intro hg; first | exact absurd hg (by decide) | refine Sm.out ?_))
  (refine OutQ.row (by simp only [resv, ZK, look, loadv, loadn, loadnm, load1, load1m, hget, ↓reduceIte, Nat.reduceEqDiff, Nat.reduceAdd, Nat.reduceMul, Nat.reduceLeDiff, Nat.reduceLT, reduceCtorEq, TFWiP, FR]) (by simp only [resv, resA, ZK, look, loadv, loadn, loadnm, load1, load1m, hget, ↓reduceIte, Nat.reduceEqDiff, Nat.reduceAdd, Nat.reduceMul, Nat.reduceLeDiff, Nat.reduceLT, reduceCtorEq, TFWiP, FR]; first | done | rfl) (by simp only [hget, ↓reduceIte, if_true, if_false, FR]; first | done | rfl) ?_ ?_ ?_ ?_ <;> first | omega | (simp only [maxLen_eq]; omega) | skip)
  all_goals rfl
end Go.Proofs.Ytljfldoekamccaa.Wi
namespace Go.Proofs.Ytljfldoekamccaa.Wi
open Go
set_option linter.unusedVariables false
set_option linter.unusedSimpArgs false
theorem TFWiQ : (((((type_of% tyc3) ∧ (type_of% zmb3)) ∧ ((type_of% tyc4) ∧ (type_of% zmb4))) ∧ (((type_of% tyc5) ∧ (type_of% zmb5)) ∧ ((type_of% tyc22) ∧ ((type_of% zmb22) ∧ (type_of% tyc38))))) ∧ ((((type_of% elt38) ∧ (type_of% mkz38)) ∧ ((type_of% apT38) ∧ ((type_of% elk38) ∧ (type_of% zmb38)))) ∧ (((type_of% Try.underlying3) ∧ (type_of% Try.underlying4)) ∧ ((type_of% Try.underlying5) ∧ ((type_of% Try.underlying22) ∧ (type_of% Try.underlying38)))))) :=
  ⟨⟨⟨⟨tyc3, zmb3⟩, ⟨tyc4, zmb4⟩⟩, ⟨⟨tyc5, zmb5⟩, ⟨tyc22, ⟨zmb22, tyc38⟩⟩⟩⟩, ⟨⟨⟨elt38, mkz38⟩, ⟨apT38, ⟨elk38, zmb38⟩⟩⟩, ⟨⟨Try.underlying3, Try.underlying4⟩, ⟨Try.underlying5, ⟨Try.underlying22, Try.underlying38⟩⟩⟩⟩⟩
theorem size_le {n j : Nat} : (lenN n + 7) / 8 ≤ j ↔ n < 256 ^ j := by
  rw [show (256 : Nat) = 2 ^ 8 from rfl, ← Nat.pow_mul, ← lenN_le]; omega
theorem or0 : ∀ k : Nat, k < 9 → ibit .or .u8 0 (k : Int) = (k : Int) := by decide +kernel
theorem or16 : ∀ k : Nat, k < 9 → ibit .or .u8 16 (k : Int) = 16 + (k : Int) := by decide +kernel
structure NG where
  j : Nat
  b : Nat
  cap : Nat
set_option maxRecDepth 8000 in
set_option maxHeartbeats 1000000 in
theorem refNum_ct (n : Nat) (hn : n < 18446744073709551616) : ACt Try.prog 31 [nu n] [] (Row .u8 5 (putL 0 n)) := by
  refine ACt.intro Try.func31 rfl (by kernel_rfl) (by simp [Try.ntmps31]) (fun cx => ?_)
  simp only [argE, Try.ntmps31, Try.results31]
  have h1 : lenN n ≤ 64 := lenN_le.2 hn
  obtain ⟨kk, hkk⟩ : ∃ kk, kk = (lenN n + 7) / 8 := ⟨_, rfl⟩
  have hkk8 : kk ≤ 8 := by omega
  have hp : putL 0 n = (kk : Int) :: byteL n kk := by unfold putL; rw [← hkk, or0 kk (by omega)]
  first | (have FRx := FR; clear FRx) | (have FR : ¬ ((1 : Nat) = 0) := Nat.one_ne_zero)
  repeat' first
    | (refine Sm.mk ?_; try simp -dsimp only [ZK, rvc, drawF, headN, pureH, stp, dvc, calleeOf, gcall, pev, eff, newB, okd, og, ogs, ogo, ogp, slv, bltv, opd, litv, strip, one, both, putE, St.put, look, gdOf, gdv, picka, pickv, pickw, binv, bini, bins, binb, binp, bina, shp, eqCells, unv, convv, nilv, faddv, addp, idxav, idxp, load1, load1m, loadn, loadnm, loadv, hget, hset, hrep, hdel, slicev, bnd, shift1, lenv, IntKind.bits, extractv, fieldv, indexv, min2v, max2v, mkiv, cellsA, fillA, buildv, stC, oneC, rowMB, intsA, plN, appE, appZ, appC, appNZ, appNC, VwL, srcC, srcZ, srcM, isBoolT, isPtrT, isSliceT, uOk, Value.oneCell', Nat.reducePow, Int.reducePow, Nat.reduceAdd, Nat.reduceMul, Nat.reduceSub, Nat.reduceLT, Nat.reduceLeDiff, Nat.reduceEqDiff, Nat.reduceBEq, Nat.reduceDiv, Nat.reduceMod, ↓reduceIte, reduceCtorEq, Int.reduceToNat, Int.reduceLT, Int.reduceLE, TFWiQ, SeqQ, BlkQ, LoopQ, BodyQ, FR])
    | (refine WP.seq fun K hK => ?_)
    | (refine WP.region (rvc_sound _ _ (Sm.out ?_)))
    | (refine WP.drawK rfl mixed (by decide +kernel) (Sm.out ?_))
    | (refine Ob.mk ?_; focus (first | assumption | omega | decide | trivial | (intro hob; simp only [hob, ZF]; done) | (intros; (repeat' refine And.intro ?_ ?_) <;> first | assumption | omega | trivial | decide) | (intros; simp only [ZE] at *; (repeat' refine And.intro ?_ ?_) <;> first | assumption | omega | trivial)))
    | (refine And.intro (Ob.out ?_) ?_)
    | (refine WP.block ?_)
    | (refine WP.cond rfl (fun hc => ?_) (fun hc => ?_) <;> (try simp only [ZC, reduceCtorEq, ZD] at hc) <;> (try (exact absurd hc (by decide))) <;> (try (exfalso; omega)))
    | ((first | refine WP.skip ?_ | refine WP.exit ?_); simp only [SeqQ, BlkQ, LoopQ, BodyQ, ↓reduceIte, Nat.reduceEqDiff, reduceCtorEq, look, true_and])
    | (refine WP.ret (Sm.out ?_))
    | (first | refine ExG.no (Sm.out ?_) | refine Or.inl (ExG.no (Sm.out ?_)) | refine Or.inl (And.intro (fun hg => absurd hg (by decide)) (ExG.no (Sm.out ?_))))
    | (refine Rt.mk ?_; refine And.intro ?_ ?_ <;> (intro hg; first | exact absurd hg (by decide) | refine Sm.out ?_))
    | (refine Nu.mk ?_; first | (fail_if_success (have := nb1)); intro nb1 | (fail_if_success (have := nb2)); intro nb2 | (fail_if_success (have := nb3)); intro nb3 | (fail_if_success (have := nb4)); intro nb4 | intro nbz)
    | (refine Fr.mk ?_; intro hfr; replace FR := And.intro hfr FR; clear hfr; refine Sm.out ?_)
    | (refine Two.mk ?_ ?_)
    | (refine Cs.mk ?_; intro hcs; first | exact False.elim hcs | (exfalso; omega) | (refine Sm.out ?_))
    | go_step
    | omega
    | (simp only [maxLen_eq]; omega)
    | (refine Or.inr (Rt.mk ?_); refine And.intro ?_ ?_ <;> (intro hg; first | exact absurd hg (by decide) | refine Sm.out ?_))
  refine WP.loop (Γ := NG) (fun g => ⟨[(0, nu (n / 256 ^ g.j)), (3, ms g.b 0 g.j g.cap)], [(g.b, .zs .u8 (byteL n g.j) g.cap 5)]⟩)
    (fun g => g.j ≤ kk ∧ g.j ≤ g.cap ∧ g.cap ≤ 9223372036854775807) (fun g => kk - g.j) ⟨0, nb1, 0⟩
    ⟨by simp, by simp, by simp⟩ (Sub.pick (by simp [pickB, hget, hdel, FR, byteL]) (by simp [look, byteL])) ?_
  intro ⟨j, b, cap⟩ ⟨g1, g2, g3⟩
  simp only at g1 g2 g3 ⊢
  (refine WP.nd fun hnd => ?_; simp only [ndF, fresh_cons, fresh_nil, and_true, ne_eq] at hnd; replace FR := And.intro hnd FR; clear hnd)
  have hlj := byteL_len n j
  have hle : n / 256 ^ j ≤ n := Nat.div_le_self _ _
  by_cases hj : j < kk
  · have hpos : 0 < n / 256 ^ j := by
      have : ¬ (lenN n + 7) / 8 ≤ j := by omega
      rw [size_le] at this
      exact Nat.div_pos (by omega) (Nat.pow_pos (by omega))
    have k1 : decide (((n / 256 ^ j : Nat) : Int) > 0) = true := decide_eq_true (by omega)
    obtain ⟨q, hq⟩ : ∃ q, q = n / 256 ^ j := ⟨_, rfl⟩
    have hnx : byteL n (j + 1) = ((q % 256 : Nat) : Int) :: byteL n j := by rw [byteL, ← hq]
    have hdq : n / 256 ^ (j + 1) = q / 256 := by rw [hq, Nat.pow_succ, Nat.div_div_eq_div_mul]
    rw [← hq] at k1 hle ⊢
    have e1 : (q : Int).tmod 256 = ((q % 256 : Nat) : Int) := by rw [Int.tmod_eq_emod_of_nonneg (by omega)]; simp
    have e2 : IntKind.u64.wrap ((q % 256 : Nat) : Int) = ((q % 256 : Nat) : Int) := wrap_u64_nat (by omega)
    have e3 : IntKind.u8.wrap ((q % 256 : Nat) : Int) = ((q % 256 : Nat) : Int) := wrap_u8 (by omega) (by omega)
    have e4 : (q : Int).tdiv 256 = ((q / 256 : Nat) : Int) := by rw [Int.tdiv_eq_ediv_of_nonneg (by omega)]; simp
    have e5 : IntKind.u64.wrap ((q / 256 : Nat) : Int) = ((q / 256 : Nat) : Int) := wrap_u64_nat (by omega)
    obtain ⟨L, hL⟩ : ∃ L, L = byteL n j := ⟨_, rfl⟩
    rw [← hL] at hlj hnx ⊢
    have e6 : L.take j = L := List.take_of_length_le (by omega)
    have q0 : 0 + j ≤ j := by omega
    have q1 : 1 + j = j + 1 := by omega
    first | (have FRx := FR; clear FRx) | (have FR : ¬ ((1 : Nat) = 0) := Nat.one_ne_zero)
    repeat' first
      | (refine Sm.mk ?_; try simp -dsimp only [ZK, rvc, drawF, headN, pureH, stp, dvc, calleeOf, gcall, pev, eff, newB, okd, og, ogs, ogo, ogp, slv, bltv, opd, litv, strip, one, both, putE, St.put, look, gdOf, gdv, picka, pickv, pickw, binv, bini, bins, binb, binp, bina, shp, eqCells, unv, convv, nilv, faddv, addp, idxav, idxp, load1, load1m, loadn, loadnm, loadv, hget, hset, hrep, hdel, slicev, bnd, shift1, lenv, IntKind.bits, extractv, fieldv, indexv, min2v, max2v, mkiv, cellsA, fillA, buildv, stC, oneC, rowMB, intsA, plN, appE, appZ, appC, appNZ, appNC, VwL, srcC, srcZ, srcM, isBoolT, isPtrT, isSliceT, uOk, Value.oneCell', Nat.reducePow, Int.reducePow, Nat.reduceAdd, Nat.reduceMul, Nat.reduceSub, Nat.reduceLT, Nat.reduceLeDiff, Nat.reduceEqDiff, Nat.reduceBEq, Nat.reduceDiv, Nat.reduceMod, ↓reduceIte, reduceCtorEq, Int.reduceToNat, Int.reduceLT, Int.reduceLE, TFWiQ, SeqQ, BlkQ, LoopQ, BodyQ, k1, e1, e2, e3, e4, e5, e6, hlj, List.singleton_append, FR])
      | (refine WP.seq fun K hK => ?_)
      | (refine WP.region (rvc_sound _ _ (Sm.out ?_)))
      | (refine WP.drawK rfl mixed (by decide +kernel) (Sm.out ?_))
      | (refine Ob.mk ?_; focus (first | assumption | omega | decide | trivial | (intro hob; simp only [hob, ZF]; done) | (intros; (repeat' refine And.intro ?_ ?_) <;> first | assumption | omega | trivial | decide) | (intros; simp only [ZE] at *; (repeat' refine And.intro ?_ ?_) <;> first | assumption | omega | trivial)))
      | (refine And.intro (Ob.out ?_) ?_)
      | (refine WP.block ?_)
      | (refine WP.cond rfl (fun hc => ?_) (fun hc => ?_) <;> (try simp only [ZC, reduceCtorEq, ZD] at hc) <;> (try (exact absurd hc (by decide))) <;> (try (exfalso; omega)))
      | ((first | refine WP.skip ?_ | refine WP.exit ?_); simp only [SeqQ, BlkQ, LoopQ, BodyQ, ↓reduceIte, Nat.reduceEqDiff, reduceCtorEq, look, true_and])
      | (refine WP.ret (Sm.out ?_))
      | (first | refine ExG.no (Sm.out ?_) | refine Or.inl (ExG.no (Sm.out ?_)) | refine Or.inl (And.intro (fun hg => absurd hg (by decide)) (ExG.no (Sm.out ?_))))
      | (refine Rt.mk ?_; refine And.intro ?_ ?_ <;> (intro hg; first | exact absurd hg (by decide) | refine Sm.out ?_))
      | (refine Nu.mk ?_; first | (fail_if_success (have := nb1)); intro nb1 | (fail_if_success (have := nb2)); intro nb2 | (fail_if_success (have := nb3)); intro nb3 | (fail_if_success (have := nb4)); intro nb4 | intro nbz)
      | (refine Fr.mk ?_; intro hfr; replace FR := And.intro hfr FR; clear hfr; refine Sm.out ?_)
      | (refine Two.mk ?_ ?_)
      | (refine Cs.mk ?_; intro hcs; first | exact False.elim hcs | (exfalso; omega) | (refine Sm.out ?_))
      | go_step
      | omega
      | (simp only [maxLen_eq]; omega)
      | (refine Or.inr (Rt.mk ?_); refine And.intro ?_ ?_ <;> (intro hg; first | exact absurd hg (by decide) | refine Sm.out ?_))
    exact ⟨⟨j + 1, nb3, nb4⟩, ⟨by simp only; omega, by simp only; omega, by simp only; omega⟩, by simp only; omega, (Sub.pick (by simp [pickB, hget, hdel, FR, hdq, hnx, q1]) (by simp [look, hdq, hnx, q1]))⟩
  · obtain rfl : j = kk := by omega
    have hz : n / 256 ^ j = 0 := by
      have := size_le.1 (Nat.le_of_eq hkk.symm)
      exact Nat.div_eq_of_lt this
    have k1 : decide (((n / 256 ^ j : Nat) : Int) > 0) = false := by rw [hz]; rfl
    obtain ⟨L, hL⟩ : ∃ L, L = byteL n j := ⟨_, rfl⟩
    rw [← hL] at hlj hp ⊢
    have e6 : L.take j = L := List.take_of_length_le (by omega)
    have w1 : IntKind.u8.wrap (j : Int) = (j : Int) := wrap_u8 (by omega) (by omega)
    have lp : (putL 0 n).length = 1 + j := by rw [hp]; simp [hlj]; omega
    first | (have FRx := FR; clear FRx) | (have FR : ¬ ((1 : Nat) = 0) := Nat.one_ne_zero)
    repeat' first
      | (refine Sm.mk ?_; try simp -dsimp only [ZK, rvc, drawF, headN, pureH, stp, dvc, calleeOf, gcall, pev, eff, newB, okd, og, ogs, ogo, ogp, slv, bltv, opd, litv, strip, one, both, putE, St.put, look, gdOf, gdv, picka, pickv, pickw, binv, bini, bins, binb, binp, bina, shp, eqCells, unv, convv, nilv, faddv, addp, idxav, idxp, load1, load1m, loadn, loadnm, loadv, hget, hset, hrep, hdel, slicev, bnd, shift1, lenv, IntKind.bits, extractv, fieldv, indexv, min2v, max2v, mkiv, cellsA, fillA, buildv, stC, oneC, rowMB, intsA, plN, appE, appZ, appC, appNZ, appNC, VwL, srcC, srcZ, srcM, isBoolT, isPtrT, isSliceT, uOk, Value.oneCell', Nat.reducePow, Int.reducePow, Nat.reduceAdd, Nat.reduceMul, Nat.reduceSub, Nat.reduceLT, Nat.reduceLeDiff, Nat.reduceEqDiff, Nat.reduceBEq, Nat.reduceDiv, Nat.reduceMod, ↓reduceIte, reduceCtorEq, Int.reduceToNat, Int.reduceLT, Int.reduceLE, TFWiQ, SeqQ, BlkQ, LoopQ, BodyQ, k1, e6, w1, hlj, List.singleton_append, FR])
      | (refine WP.seq fun K hK => ?_)
      | (refine WP.region (rvc_sound _ _ (Sm.out ?_)))
      | (refine WP.drawK rfl mixed (by decide +kernel) (Sm.out ?_))
      | (refine Ob.mk ?_; focus (first | assumption | omega | decide | trivial | (intro hob; simp only [hob, ZF]; done) | (intros; (repeat' refine And.intro ?_ ?_) <;> first | assumption | omega | trivial | decide) | (intros; simp only [ZE] at *; (repeat' refine And.intro ?_ ?_) <;> first | assumption | omega | trivial)))
      | (refine And.intro (Ob.out ?_) ?_)
      | (refine WP.block ?_)
      | (refine WP.cond rfl (fun hc => ?_) (fun hc => ?_) <;> (try simp only [ZC, reduceCtorEq, ZD] at hc) <;> (try (exact absurd hc (by decide))) <;> (try (exfalso; omega)))
      | ((first | refine WP.skip ?_ | refine WP.exit ?_); simp only [SeqQ, BlkQ, LoopQ, BodyQ, ↓reduceIte, Nat.reduceEqDiff, reduceCtorEq, look, true_and])
      | (refine WP.ret (Sm.out ?_))
      | (first | refine ExG.no (Sm.out ?_) | refine Or.inl (ExG.no (Sm.out ?_)) | refine Or.inl (And.intro (fun hg => absurd hg (by decide)) (ExG.no (Sm.out ?_))))
      | (refine Rt.mk ?_; refine And.intro ?_ ?_ <;> (intro hg; first | exact absurd hg (by decide) | refine Sm.out ?_))
      | (refine Nu.mk ?_; first | (fail_if_success (have := nb1)); intro nb1 | (fail_if_success (have := nb2)); intro nb2 | (fail_if_success (have := nb3)); intro nb3 | (fail_if_success (have := nb4)); intro nb4 | intro nbz)
      | (refine Fr.mk ?_; intro hfr; replace FR := And.intro hfr FR; clear hfr; refine Sm.out ?_)
      | (refine Two.mk ?_ ?_)
      | (refine Cs.mk ?_; intro hcs; first | exact False.elim hcs | (exfalso; omega) | (refine Sm.out ?_))
      | go_step
      | omega
      | (simp only [maxLen_eq]; omega)
      | (refine Or.inr (Rt.mk ?_); refine And.intro ?_ ?_ <;> (intro hg; first | exact absurd hg (by decide) | refine Sm.out ?_))
    (refine OutQ.row (by simp only [resv, ZK, look, loadv, loadn, loadnm, load1, load1m, hget, ↓reduceIte, Nat.reduceEqDiff, Nat.reduceAdd, Nat.reduceMul, Nat.reduceLeDiff, Nat.reduceLT, reduceCtorEq, TFWiQ, FR]) (by simp only [resv, resA, ZK, look, loadv, loadn, loadnm, load1, load1m, hget, ↓reduceIte, Nat.reduceEqDiff, Nat.reduceAdd, Nat.reduceMul, Nat.reduceLeDiff, Nat.reduceLT, reduceCtorEq, TFWiQ, FR]; first | done | rfl) (by simp only [hget, ↓reduceIte, if_true, if_false, FR]; first | done | rfl) ?_ ?_ ?_ ?_ <;> first | omega | (simp only [maxLen_eq]; omega) | skip)
    all_goals first | omega | (rw [hp]; done) | (rw [lp]; done) | (simp [hp, hlj]; done) | (simp [hp, hlj]; omega)
end Go.Proofs.Ytljfldoekamccaa.Wi
namespace Go.Proofs.Ytljfldoekamccaa.Wi
open Go
set_option linter.unusedVariables false
set_option linter.unusedSimpArgs false
theorem TFWiR : ((((((type_of% tyc0) ∧ (type_of% tyc3)) ∧ ((type_of% zmb3) ∧ ((type_of% tyc4) ∧ (type_of% zmb4)))) ∧ (((type_of% tyc5) ∧ ((type_of% zmb5) ∧ (type_of% tyc22))) ∧ ((type_of% zmb22) ∧ ((type_of% tyc38) ∧ (type_of% elt38))))) ∧ ((((type_of% mkz38) ∧ ((type_of% apT38) ∧ (type_of% elk38))) ∧ ((type_of% zmb38) ∧ ((type_of% tyc44) ∧ (type_of% mth44_35)))) ∧ (((type_of% mth44_36) ∧ ((type_of% mth44_39) ∧ (type_of% con44))) ∧ ((type_of% zmb44) ∧ ((type_of% tyc48) ∧ (type_of% zmb48)))))) ∧ (((((type_of% tyc64) ∧ (type_of% foff64_0)) ∧ ((type_of% fpart64_0) ∧ ((type_of% foff64_1) ∧ (type_of% fpart64_1)))) ∧ (((type_of% zmb64) ∧ ((type_of% bldT64) ∧ (type_of% tyc81))) ∧ ((type_of% tyc90) ∧ ((type_of% tyc92) ∧ (type_of% zmb92))))) ∧ ((((type_of% Try.underlying0) ∧ ((type_of% Try.underlying3) ∧ (type_of% Try.underlying4))) ∧ ((type_of% Try.underlying5) ∧ ((type_of% Try.underlying22) ∧ (type_of% Try.underlying38)))) ∧ (((type_of% Try.underlying44) ∧ ((type_of% Try.underlying48) ∧ (type_of% Try.underlying64))) ∧ ((type_of% Try.underlying81) ∧ ((type_of% Try.underlying90) ∧ (type_of% Try.underlying92))))))) :=
  ⟨⟨⟨⟨⟨tyc0, tyc3⟩, ⟨zmb3, ⟨tyc4, zmb4⟩⟩⟩, ⟨⟨tyc5, ⟨zmb5, tyc22⟩⟩, ⟨zmb22, ⟨tyc38, elt38⟩⟩⟩⟩, ⟨⟨⟨mkz38, ⟨apT38, elk38⟩⟩, ⟨zmb38, ⟨tyc44, mth44_35⟩⟩⟩, ⟨⟨mth44_36, ⟨mth44_39, con44⟩⟩, ⟨zmb44, ⟨tyc48, zmb48⟩⟩⟩⟩⟩, ⟨⟨⟨⟨tyc64, foff64_0⟩, ⟨fpart64_0, ⟨foff64_1, fpart64_1⟩⟩⟩, ⟨⟨zmb64, ⟨bldT64, tyc81⟩⟩, ⟨tyc90, ⟨tyc92, zmb92⟩⟩⟩⟩, ⟨⟨⟨Try.underlying0, ⟨Try.underlying3, Try.underlying4⟩⟩, ⟨Try.underlying5, ⟨Try.underlying22, Try.underlying38⟩⟩⟩, ⟨⟨Try.underlying44, ⟨Try.underlying48, Try.underlying64⟩⟩, ⟨Try.underlying81, ⟨Try.underlying90, Try.underlying92⟩⟩⟩⟩⟩⟩
/-- a reader's cells -/
abbrev rd (zs : List Int) (f : Bool) : MB := .cells [.slz .u8 zs, bv f] 2 64
theorem badR (b : Nat) (zs : List Int) (f : Bool) : ACt Try.prog 21 [pt b 0] [(b, rd zs f)] (fun r F' => r = bv f ∧ F' = [(b, rd zs f)]) := by
  refine ACt.intro Try.func21 rfl (by kernel_rfl) (by simp [Try.ntmps21]) (fun cx => ?_)
  simp only [argE, Try.ntmps21, Try.results21]
  first | (have FRx := FR; clear FRx) | (have FR : ¬ ((1 : Nat) = 0) := Nat.one_ne_zero)
  repeat' first
    | (refine Sm.mk ?_; try simp -dsimp only [ZK, rvc, drawF, headN, pureH, stp, dvc, calleeOf, gcall, pev, eff, newB, okd, og, ogs, ogo, ogp, slv, bltv, opd, litv, strip, one, both, putE, St.put, look, gdOf, gdv, picka, pickv, pickw, binv, bini, bins, binb, binp, bina, shp, eqCells, unv, convv, nilv, faddv, addp, idxav, idxp, load1, load1m, loadn, loadnm, loadv, hget, hset, hrep, hdel, slicev, bnd, shift1, lenv, IntKind.bits, extractv, fieldv, indexv, min2v, max2v, mkiv, cellsA, fillA, buildv, stC, oneC, rowMB, intsA, plN, appE, appZ, appC, appNZ, appNC, VwL, srcC, srcZ, srcM, isBoolT, isPtrT, isSliceT, uOk, Value.oneCell', Nat.reducePow, Int.reducePow, Nat.reduceAdd, Nat.reduceMul, Nat.reduceSub, Nat.reduceLT, Nat.reduceLeDiff, Nat.reduceEqDiff, Nat.reduceBEq, Nat.reduceDiv, Nat.reduceMod, ↓reduceIte, reduceCtorEq, Int.reduceToNat, Int.reduceLT, Int.reduceLE, TFWiR, SeqQ, BlkQ, LoopQ, BodyQ, FR])
    | (refine WP.seq fun K hK => ?_)
    | (refine WP.region (rvc_sound _ _ (Sm.out ?_)))
    | (refine WP.drawK rfl mixed (by decide +kernel) (Sm.out ?_))
    | (refine Ob.mk ?_; focus (first | assumption | omega | decide | trivial | (intro hob; simp only [hob, ZF]; done) | (intros; (repeat' refine And.intro ?_ ?_) <;> first | assumption | omega | trivial | decide) | (intros; simp only [ZE] at *; (repeat' refine And.intro ?_ ?_) <;> first | assumption | omega | trivial)))
    | (refine And.intro (Ob.out ?_) ?_)
    | (refine WP.block ?_)
    | (refine WP.cond rfl (fun hc => ?_) (fun hc => ?_) <;> (try simp only [ZC, reduceCtorEq, ZD] at hc) <;> (try (exact absurd hc (by decide))) <;> (try (exfalso; omega)))
    | ((first | refine WP.skip ?_ | refine WP.exit ?_); simp only [SeqQ, BlkQ, LoopQ, BodyQ, ↓reduceIte, Nat.reduceEqDiff, reduceCtorEq, look, true_and])
    | (refine WP.ret (Sm.out ?_))
    | (first | refine ExG.no (Sm.out ?_) | refine Or.inl (ExG.no (Sm.out ?_)) | refine Or.inl (And.intro (fun hg => absurd hg (by decide)) (ExG.no (Sm.out ?_))))
    | (refine Rt.mk ?_; refine And.intro ?_ ?_ <;> (intro hg; first | exact absurd hg (by decide) | refine Sm.out ?_))
    | (refine Nu.mk ?_; first | (fail_if_success (have := nb1)); intro nb1 | (fail_if_success (have := nb2)); intro nb2 | (fail_if_success (have := nb3)); intro nb3 | intro nbz)
    | (refine Fr.mk ?_; intro hfr; replace FR := And.intro hfr FR; clear hfr; refine Sm.out ?_)
    | (refine Two.mk ?_ ?_)
    | (refine Cs.mk ?_; intro hcs; first | exact False.elim hcs | (exfalso; omega) | (refine Sm.out ?_))
    | go_step
    | omega
    | (simp only [maxLen_eq]; omega)
    | (refine Or.inr (Rt.mk ?_); refine And.intro ?_ ?_ <;> (intro hg; first | exact absurd hg (by decide) | refine Sm.out ?_))
  (refine OutQ.upd (by simp only [resv, ZK, look, loadv, loadn, loadnm, load1, load1m, hget, ↓reduceIte, Nat.reduceEqDiff, Nat.reduceAdd, Nat.reduceMul, Nat.reduceLeDiff, Nat.reduceLT, reduceCtorEq, TFWiR, FR]) (by simp only [resv, resA, ZK, look, loadv, loadn, loadnm, load1, load1m, hget, ↓reduceIte, Nat.reduceEqDiff, Nat.reduceAdd, Nat.reduceMul, Nat.reduceLeDiff, Nat.reduceLT, reduceCtorEq, TFWiR, FR]; first | done | rfl) (by simp only [hget, ↓reduceIte, if_true, if_false, FR]; first | done | rfl) ?_ <;> first | exact rfl | (simp only [ZK, look, loadv, loadn, loadnm, load1, load1m, hget, ↓reduceIte, Nat.reduceEqDiff, Nat.reduceAdd, Nat.reduceMul, Nat.reduceLeDiff, Nat.reduceLT, reduceCtorEq, TFWiR, FR]; done) | skip)
theorem leftR (b : Nat) (zs : List Int) : ACt Try.prog 22 [pt b 0] [(b, rd zs false)] (fun r F' => r = iv .i64 zs.length ∧ F' = [(b, rd zs false)]) := by
  refine ACt.intro Try.func22 rfl (by kernel_rfl) (by simp [Try.ntmps22]) (fun cx => ?_)
  simp only [argE, Try.ntmps22, Try.results22]
  first | (have FRx := FR; clear FRx) | (have FR : ¬ ((1 : Nat) = 0) := Nat.one_ne_zero)
  repeat' first
    | (refine Sm.mk ?_; try simp -dsimp only [ZK, rvc, drawF, headN, pureH, stp, dvc, calleeOf, gcall, pev, eff, newB, okd, og, ogs, ogo, ogp, slv, bltv, opd, litv, strip, one, both, putE, St.put, look, gdOf, gdv, picka, pickv, pickw, binv, bini, bins, binb, binp, bina, shp, eqCells, unv, convv, nilv, faddv, addp, idxav, idxp, load1, load1m, loadn, loadnm, loadv, hget, hset, hrep, hdel, slicev, bnd, shift1, lenv, IntKind.bits, extractv, fieldv, indexv, min2v, max2v, mkiv, cellsA, fillA, buildv, stC, oneC, rowMB, intsA, plN, appE, appZ, appC, appNZ, appNC, VwL, srcC, srcZ, srcM, isBoolT, isPtrT, isSliceT, uOk, Value.oneCell', Nat.reducePow, Int.reducePow, Nat.reduceAdd, Nat.reduceMul, Nat.reduceSub, Nat.reduceLT, Nat.reduceLeDiff, Nat.reduceEqDiff, Nat.reduceBEq, Nat.reduceDiv, Nat.reduceMod, ↓reduceIte, reduceCtorEq, Int.reduceToNat, Int.reduceLT, Int.reduceLE, TFWiR, SeqQ, BlkQ, LoopQ, BodyQ, FR])
    | (refine CallV.upd (by simp only [hget, ↓reduceIte, FR]; first | done | rfl) (badR b zs false) (Sm.out ?_))
    | (refine WP.seq fun K hK => ?_)
    | (refine WP.region (rvc_sound _ _ (Sm.out ?_)))
    | (refine WP.drawK rfl mixed (by decide +kernel) (Sm.out ?_))
    | (refine Ob.mk ?_; focus (first | assumption | omega | decide | trivial | (intro hob; simp only [hob, ZF]; done) | (intros; (repeat' refine And.intro ?_ ?_) <;> first | assumption | omega | trivial | decide) | (intros; simp only [ZE] at *; (repeat' refine And.intro ?_ ?_) <;> first | assumption | omega | trivial)))
    | (refine And.intro (Ob.out ?_) ?_)
    | (refine WP.block ?_)
    | (refine WP.cond rfl (fun hc => ?_) (fun hc => ?_) <;> (try simp only [ZC, reduceCtorEq, ZD] at hc) <;> (try (exact absurd hc (by decide))) <;> (try (exfalso; omega)))
    | ((first | refine WP.skip ?_ | refine WP.exit ?_); simp only [SeqQ, BlkQ, LoopQ, BodyQ, ↓reduceIte, Nat.reduceEqDiff, reduceCtorEq, look, true_and])
    | (refine WP.ret (Sm.out ?_))
    | (first | refine ExG.no (Sm.out ?_) | refine Or.inl (ExG.no (Sm.out ?_)) | refine Or.inl (And.intro (fun hg => absurd hg (by decide)) (ExG.no (Sm.out ?_))))
    | (refine Rt.mk ?_; refine And.intro ?_ ?_ <;> (intro hg; first | exact absurd hg (by decide) | refine Sm.out ?_))
    | (refine Nu.mk ?_; first | (fail_if_success (have := nb1)); intro nb1 | (fail_if_success (have := nb2)); intro nb2 | (fail_if_success (have := nb3)); intro nb3 | intro nbz)
    | (refine Fr.mk ?_; intro hfr; replace FR := And.intro hfr FR; clear hfr; refine Sm.out ?_)
    | (refine Two.mk ?_ ?_)
    | (refine Cs.mk ?_; intro hcs; first | exact False.elim hcs | (exfalso; omega) | (refine Sm.out ?_))
    | go_step
    | omega
    | (simp only [maxLen_eq]; omega)
    | (refine Or.inr (Rt.mk ?_); refine And.intro ?_ ?_ <;> (intro hg; first | exact absurd hg (by decide) | refine Sm.out ?_))
  (refine OutQ.upd (by simp only [resv, ZK, look, loadv, loadn, loadnm, load1, load1m, hget, ↓reduceIte, Nat.reduceEqDiff, Nat.reduceAdd, Nat.reduceMul, Nat.reduceLeDiff, Nat.reduceLT, reduceCtorEq, TFWiR, FR]) (by simp only [resv, resA, ZK, look, loadv, loadn, loadnm, load1, load1m, hget, ↓reduceIte, Nat.reduceEqDiff, Nat.reduceAdd, Nat.reduceMul, Nat.reduceLeDiff, Nat.reduceLT, reduceCtorEq, TFWiR, FR]; first | done | rfl) (by simp only [hget, ↓reduceIte, if_true, if_false, FR]; first | done | rfl) ?_ <;> first | exact rfl | (simp only [ZK, look, loadv, loadn, loadnm, load1, load1m, hget, ↓reduceIte, Nat.reduceEqDiff, Nat.reduceAdd, Nat.reduceMul, Nat.reduceLeDiff, Nat.reduceLT, reduceCtorEq, TFWiR, FR]; done) | skip)
theorem endR (b : Nat) : ACt Try.prog 19 [pt b 0] [(b, rd [] false)] (fun r F' => r = iv .i64 0 ∧ F' = [(b, rd [] false)]) := by
  refine ACt.intro Try.func19 rfl (by kernel_rfl) (by simp [Try.ntmps19]) (fun cx => ?_)
  simp only [argE, Try.ntmps19, Try.results19]
  have d : decide ((0 : Int) > 0) = false := by decide
  have d2 : decide (((0 : Nat) : Int) > 0) = false := by decide
  first | (have FRx := FR; clear FRx) | (have FR : ¬ ((1 : Nat) = 0) := Nat.one_ne_zero)
  repeat' first
    | (refine Sm.mk ?_; try simp -dsimp only [ZK, rvc, drawF, headN, pureH, stp, dvc, calleeOf, gcall, pev, eff, newB, okd, og, ogs, ogo, ogp, slv, bltv, opd, litv, strip, one, both, putE, St.put, look, gdOf, gdv, picka, pickv, pickw, binv, bini, bins, binb, binp, bina, shp, eqCells, unv, convv, nilv, faddv, addp, idxav, idxp, load1, load1m, loadn, loadnm, loadv, hget, hset, hrep, hdel, slicev, bnd, shift1, lenv, IntKind.bits, extractv, fieldv, indexv, min2v, max2v, mkiv, cellsA, fillA, buildv, stC, oneC, rowMB, intsA, plN, appE, appZ, appC, appNZ, appNC, VwL, srcC, srcZ, srcM, isBoolT, isPtrT, isSliceT, uOk, Value.oneCell', Nat.reducePow, Int.reducePow, Nat.reduceAdd, Nat.reduceMul, Nat.reduceSub, Nat.reduceLT, Nat.reduceLeDiff, Nat.reduceEqDiff, Nat.reduceBEq, Nat.reduceDiv, Nat.reduceMod, ↓reduceIte, reduceCtorEq, Int.reduceToNat, Int.reduceLT, Int.reduceLE, TFWiR, SeqQ, BlkQ, LoopQ, BodyQ, d, d2, FR])
    | (refine CallV.upd (by simp only [hget, ↓reduceIte, FR, d, d2]; first | done | rfl) (badR b [] false) (Sm.out ?_))
    | (refine WP.seq fun K hK => ?_)
    | (refine WP.region (rvc_sound _ _ (Sm.out ?_)))
    | (refine WP.drawK rfl mixed (by decide +kernel) (Sm.out ?_))
    | (refine Ob.mk ?_; focus (first | assumption | omega | decide | trivial | (intro hob; simp only [hob, ZF]; done) | (intros; (repeat' refine And.intro ?_ ?_) <;> first | assumption | omega | trivial | decide) | (intros; simp only [ZE] at *; (repeat' refine And.intro ?_ ?_) <;> first | assumption | omega | trivial)))
    | (refine And.intro (Ob.out ?_) ?_)
    | (refine WP.block ?_)
    | (refine WP.cond rfl (fun hc => ?_) (fun hc => ?_) <;> (try simp only [ZC, reduceCtorEq, ZD] at hc) <;> (try (exact absurd hc (by decide))) <;> (try (exfalso; omega)))
    | ((first | refine WP.skip ?_ | refine WP.exit ?_); simp only [SeqQ, BlkQ, LoopQ, BodyQ, ↓reduceIte, Nat.reduceEqDiff, reduceCtorEq, look, true_and])
    | (refine WP.ret (Sm.out ?_))
    | (first | refine ExG.no (Sm.out ?_) | refine Or.inl (ExG.no (Sm.out ?_)) | refine Or.inl (And.intro (fun hg => absurd hg (by decide)) (ExG.no (Sm.out ?_))))
    | (refine Rt.mk ?_; refine And.intro ?_ ?_ <;> (intro hg; first | exact absurd hg (by decide) | refine Sm.out ?_))
    | (refine Nu.mk ?_; first | (fail_if_success (have := nb1)); intro nb1 | (fail_if_success (have := nb2)); intro nb2 | (fail_if_success (have := nb3)); intro nb3 | intro nbz)
    | (refine Fr.mk ?_; intro hfr; replace FR := And.intro hfr FR; clear hfr; refine Sm.out ?_)
    | (refine Two.mk ?_ ?_)
    | (refine Cs.mk ?_; intro hcs; first | exact False.elim hcs | (exfalso; omega) | (refine Sm.out ?_))
    | go_step
    | omega
    | (simp only [maxLen_eq]; omega)
    | (refine Or.inr (Rt.mk ?_); refine And.intro ?_ ?_ <;> (intro hg; first | exact absurd hg (by decide) | refine Sm.out ?_))
  (refine OutQ.upd (by simp only [resv, ZK, look, loadv, loadn, loadnm, load1, load1m, hget, ↓reduceIte, Nat.reduceEqDiff, Nat.reduceAdd, Nat.reduceMul, Nat.reduceLeDiff, Nat.reduceLT, reduceCtorEq, TFWiR, FR]) (by simp only [resv, resA, ZK, look, loadv, loadn, loadnm, load1, load1m, hget, ↓reduceIte, Nat.reduceEqDiff, Nat.reduceAdd, Nat.reduceMul, Nat.reduceLeDiff, Nat.reduceLT, reduceCtorEq, TFWiR, FR]; first | done | rfl) (by simp only [hget, ↓reduceIte, if_true, if_false, FR]; first | done | rfl) ?_ <;> first | exact rfl | (simp only [ZK, look, loadv, loadn, loadnm, load1, load1m, hget, ↓reduceIte, Nat.reduceEqDiff, Nat.reduceAdd, Nat.reduceMul, Nat.reduceLeDiff, Nat.reduceLT, reduceCtorEq, TFWiR, FR]; done) | skip)
theorem takeR (b : Nat) (zs : List Int) (n : Nat) (hn : n ≤ zs.length) (hz : zs.length ≤ 100000) :
    ACt Try.prog 39 [pt b 0, nu n] [(b, rd zs false)] (fun r F' => r = .tup [.slz .u8 (zs.take n), bv true] ∧ F' = [(b, rd (zs.drop n) false)]) := by
  refine ACt.intro Try.func39 rfl (by kernel_rfl) (by simp [Try.ntmps39]) (fun cx => ?_)
  simp only [argE, Try.ntmps39, Try.results39]
  have w : IntKind.u64.wrap (zs.length : Int) = (zs.length : Int) := wrap_u64_nat (by omega)
  have d : decide ((n : Int) > zs.length) = false := by simp; omega
  have e : zs.take zs.length = zs := List.take_length
  first | (have FRx := FR; clear FRx) | (have FR : ¬ ((1 : Nat) = 0) := Nat.one_ne_zero)
  repeat' first
    | (refine Sm.mk ?_; try simp -dsimp only [ZK, rvc, drawF, headN, pureH, stp, dvc, calleeOf, gcall, pev, eff, newB, okd, og, ogs, ogo, ogp, slv, bltv, opd, litv, strip, one, both, putE, St.put, look, gdOf, gdv, picka, pickv, pickw, binv, bini, bins, binb, binp, bina, shp, eqCells, unv, convv, nilv, faddv, addp, idxav, idxp, load1, load1m, loadn, loadnm, loadv, hget, hset, hrep, hdel, slicev, bnd, shift1, lenv, IntKind.bits, extractv, fieldv, indexv, min2v, max2v, mkiv, cellsA, fillA, buildv, stC, oneC, rowMB, intsA, plN, appE, appZ, appC, appNZ, appNC, VwL, srcC, srcZ, srcM, isBoolT, isPtrT, isSliceT, uOk, Value.oneCell', Nat.reducePow, Int.reducePow, Nat.reduceAdd, Nat.reduceMul, Nat.reduceSub, Nat.reduceLT, Nat.reduceLeDiff, Nat.reduceEqDiff, Nat.reduceBEq, Nat.reduceDiv, Nat.reduceMod, ↓reduceIte, reduceCtorEq, Int.reduceToNat, Int.reduceLT, Int.reduceLE, TFWiR, SeqQ, BlkQ, LoopQ, BodyQ, w, d, e, FR])
    | (refine CallV.upd (by simp only [hget, ↓reduceIte, FR, w, d, e]; first | done | rfl) (badR b zs false) (Sm.out ?_))
    | (refine WP.seq fun K hK => ?_)
    | (refine WP.region (rvc_sound _ _ (Sm.out ?_)))
    | (refine WP.drawK rfl mixed (by decide +kernel) (Sm.out ?_))
    | (refine Ob.mk ?_; focus (first | assumption | omega | decide | trivial | (intro hob; simp only [hob, ZF]; done) | (intros; (repeat' refine And.intro ?_ ?_) <;> first | assumption | omega | trivial | decide) | (intros; simp only [ZE] at *; (repeat' refine And.intro ?_ ?_) <;> first | assumption | omega | trivial)))
    | (refine And.intro (Ob.out ?_) ?_)
    | (refine WP.block ?_)
    | (refine WP.cond rfl (fun hc => ?_) (fun hc => ?_) <;> (try simp only [ZC, reduceCtorEq, ZD] at hc) <;> (try (exact absurd hc (by decide))) <;> (try (exfalso; omega)))
    | ((first | refine WP.skip ?_ | refine WP.exit ?_); simp only [SeqQ, BlkQ, LoopQ, BodyQ, ↓reduceIte, Nat.reduceEqDiff, reduceCtorEq, look, true_and])
    | (refine WP.ret (Sm.out ?_))
    | (first | refine ExG.no (Sm.out ?_) | refine Or.inl (ExG.no (Sm.out ?_)) | refine Or.inl (And.intro (fun hg => absurd hg (by decide)) (ExG.no (Sm.out ?_))))
    | (refine Rt.mk ?_; refine And.intro ?_ ?_ <;> (intro hg; first | exact absurd hg (by decide) | refine Sm.out ?_))
    | (refine Nu.mk ?_; first | (fail_if_success (have := nb1)); intro nb1 | (fail_if_success (have := nb2)); intro nb2 | (fail_if_success (have := nb3)); intro nb3 | intro nbz)
    | (refine Fr.mk ?_; intro hfr; replace FR := And.intro hfr FR; clear hfr; refine Sm.out ?_)
    | (refine Two.mk ?_ ?_)
    | (refine Cs.mk ?_; intro hcs; first | exact False.elim hcs | (exfalso; omega) | (refine Sm.out ?_))
    | go_step
    | omega
    | (simp only [maxLen_eq]; omega)
    | (refine Or.inr (Rt.mk ?_); refine And.intro ?_ ?_ <;> (intro hg; first | exact absurd hg (by decide) | refine Sm.out ?_))
  (refine OutQ.upd (by simp only [resv, ZK, look, loadv, loadn, loadnm, load1, load1m, hget, ↓reduceIte, Nat.reduceEqDiff, Nat.reduceAdd, Nat.reduceMul, Nat.reduceLeDiff, Nat.reduceLT, reduceCtorEq, TFWiR, FR]) (by simp only [resv, resA, ZK, look, loadv, loadn, loadnm, load1, load1m, hget, ↓reduceIte, Nat.reduceEqDiff, Nat.reduceAdd, Nat.reduceMul, Nat.reduceLeDiff, Nat.reduceLT, reduceCtorEq, TFWiR, FR]; first | done | rfl) (by simp only [hget, ↓reduceIte, if_true, if_false, FR]; first | done | rfl) ?_ <;> first | exact rfl | (simp only [ZK, look, loadv, loadn, loadnm, load1, load1m, hget, ↓reduceIte, Nat.reduceEqDiff, Nat.reduceAdd, Nat.reduceMul, Nat.reduceLeDiff, Nat.reduceLT, reduceCtorEq, TFWiR, FR]; done) | skip)
theorem byteL_hd {n k : Nat} (h : n < 256 ^ (k + 1)) (h2 : 256 ^ k ≤ n) : n / 256 ^ k % 256 ≠ 0 := by
  have h3 : n / 256 ^ k < 256 := by rw [Nat.div_lt_iff_lt_mul (Nat.pow_pos (by omega))]; rw [Nat.pow_succ, Nat.mul_comm] at h; exact h
  have h4 : 1 ≤ n / 256 ^ k := Nat.div_pos h2 (Nat.pow_pos (by omega))
  omega
theorem byteL_at (n : Nat) : ∀ (k j : Nat), j < k → (byteL n k).getD j 0 = ((n / 256 ^ (k - 1 - j) % 256 : Nat) : Int)
  | 0, j, h => by omega
  | k + 1, 0, _ => by simp [byteL]
  | k + 1, j + 1, h => by
    rw [byteL, List.getD_cons_succ, byteL_at n k j (by omega), show k + 1 - 1 - (j + 1) = k - 1 - j by omega]
set_option maxRecDepth 8000 in
theorem or8 (a c : Nat) (ha : a * 256 < 18446744073709551616) (hc : c < 256) : ibit .or .u64 ((a * 256 : Nat) : Int) (c : Int) = ((a * 256 + c : Nat) : Int) := by
  have h3 : a * 256 + c < 18446744073709551616 := by omega
  have e : ibit .or .u64 ((a * 256 : Nat) : Int) (c : Int) = IntKind.u64.wrap ((BitVec.ofInt 64 ((a * 256 : Nat) : Int) ||| BitVec.ofInt 64 ((c : Nat) : Int)).toNat : Int) := rfl
  have h2 : a * 256 ||| c = a * 256 + c := by
    have := Nat.two_pow_add_eq_or_of_lt (i := 8) (b := c) (by omega) a
    rw [Nat.mul_comm a 256]; exact this.symm
  rw [e, ofInt_nat, ofInt_nat, BitVec.toNat_or, BitVec.toNat_ofNat, BitVec.toNat_ofNat, Nat.mod_eq_of_lt ha, Nat.mod_eq_of_lt (show c < 2 ^ 64 by omega), h2]
  exact wrap_u64_nat h3
structure GG where
  j : Nat
set_option maxRecDepth 8000 in
set_option maxHeartbeats 2000000 in
theorem getR (b : Nat) (hd sg sgn : Int) (n k : Nat) (rest : List Int) (hk : k = (lenN n + 7) / 8) (hn : n < 18446744073709551616) (hr : rest.length ≤ 10000) (h1 : ibit .and .u8 hd sgn = sg) (h2 : ibit .andNot .u8 hd sgn = (k : Int)) :
    ACt Try.prog 36 [pt b 0, iv .u8 sgn] [(b, rd (hd :: byteL n k ++ rest) false)] (fun r F' => r = .tup [iv .u8 sg, nu n] ∧ F' = [(b, rd rest false)]) := by
  refine ACt.intro Try.func36 rfl (by kernel_rfl) (by simp [Try.ntmps36]) (fun cx => ?_)
  simp only [argE, Try.ntmps36, Try.results36]
  have hl : lenN n ≤ 64 := lenN_le.2 hn
  have hk8 : k ≤ 8 := by omega
  have hlt : n < 256 ^ k := size_le.1 (Nat.le_of_eq hk.symm)
  have hlb := byteL_len n k
  obtain ⟨Z, hZ⟩ : ∃ Z, Z = hd :: byteL n k ++ rest := ⟨_, rfl⟩
  have lZ : Z.length = 1 + k + rest.length := by rw [hZ]; simp [hlb]; omega
  have c1 := takeR b Z 1 (by omega) (by omega)
  rw [show Z.take 1 = [hd] by rw [hZ]; simp] at c1
  obtain ⟨V, hV⟩ : ∃ V, V = byteL n k ++ rest := ⟨_, rfl⟩
  rw [show Z.drop 1 = V by rw [hZ, hV]; simp] at c1
  have lV : V.length = k + rest.length := by rw [hV]; simp [hlb]
  have c2 := takeR b V k (by omega) (by omega)
  rw [show V.take k = byteL n k by rw [hV]; exact List.take_left' hlb, show V.drop k = rest by rw [hV]; exact List.drop_left' hlb] at c2
  have c3 : ACt Try.prog 39 [pt b 0, iv .u64 1] [(b, rd Z false)] (fun r F' => r = .tup [.slz .u8 [hd], bv true] ∧ F' = [(b, rd V false)]) := c1
  have d1 : decide ((k : Int) > 8) = false := by simp; omega
  have w1 : IntKind.u64.wrap (k : Int) = (k : Int) := wrap_u64_nat (by omega)
  obtain ⟨L, hL⟩ : ∃ L, L = byteL n k := ⟨_, rfl⟩
  rw [← hL] at c2 hlb
  rw [← hZ]
  have cc : (decide ((k : Int) > 0) && (L.getD 0 0 == 0)) = false := by
    by_cases h0 : k = 0
    · rw [h0]; rfl
    · have e : L.getD 0 0 = ((n / 256 ^ (k - 1 - 0) % 256 : Nat) : Int) := by rw [hL]; exact byteL_at n k 0 (by omega)
      have hge : 256 ^ (k - 1) ≤ n := by
        apply Classical.byContradiction; intro hc
        have := size_le.2 (show n < 256 ^ (k - 1) by omega)
        omega
      have hne := byteL_hd (k := k - 1) (by rw [show k - 1 + 1 = k by omega]; exact hlt) hge
      rw [Nat.sub_zero] at e
      have hx : L.getD 0 0 ≠ 0 := by rw [e]; exact fun hz => hne (by exact_mod_cast hz)
      rw [beq_eq_false_iff_ne.2 hx, Bool.and_false]
  have hz0 : n / 256 ^ k = 0 := Nat.div_eq_of_lt hlt
  by_cases h0 : k = 0
  · have d2 : decide ((k : Int) > 0) = false := by simp; omega
    first | (have FRx := FR; clear FRx) | (have FR : ¬ ((1 : Nat) = 0) := Nat.one_ne_zero)
    repeat' first
      | (refine Sm.mk ?_; try simp -dsimp only [ZK, rvc, drawF, headN, pureH, stp, dvc, calleeOf, gcall, pev, eff, newB, okd, og, ogs, ogo, ogp, slv, bltv, opd, litv, strip, one, both, putE, St.put, look, gdOf, gdv, picka, pickv, pickw, binv, bini, bins, binb, binp, bina, shp, eqCells, unv, convv, nilv, faddv, addp, idxav, idxp, load1, load1m, loadn, loadnm, loadv, hget, hset, hrep, hdel, slicev, bnd, shift1, lenv, IntKind.bits, extractv, fieldv, indexv, min2v, max2v, mkiv, cellsA, fillA, buildv, stC, oneC, rowMB, intsA, plN, appE, appZ, appC, appNZ, appNC, VwL, srcC, srcZ, srcM, isBoolT, isPtrT, isSliceT, uOk, Value.oneCell', Nat.reducePow, Int.reducePow, Nat.reduceAdd, Nat.reduceMul, Nat.reduceSub, Nat.reduceLT, Nat.reduceLeDiff, Nat.reduceEqDiff, Nat.reduceBEq, Nat.reduceDiv, Nat.reduceMod, ↓reduceIte, reduceCtorEq, Int.reduceToNat, Int.reduceLT, Int.reduceLE, TFWiR, SeqQ, BlkQ, LoopQ, BodyQ, h1, h2, d1, d2, w1, List.getD_cons_zero, FR])
      | (refine CallV.upd (by simp only [hget, ↓reduceIte, FR, h1, h2, d1, d2, w1, List.getD_cons_zero]; first | done | rfl) (c3) (Sm.out ?_))
      | (refine CallV.upd (by simp only [hget, ↓reduceIte, FR, h1, h2, d1, d2, w1, List.getD_cons_zero]; first | done | rfl) (c2) (Sm.out ?_))
      | (refine WP.seq fun K hK => ?_)
      | ((fail_if_success (show WP _ _ _ (.region 14 _ _) _ _)); refine WP.region (rvc_sound _ _ (Sm.out ?_)))
      | ((fail_if_success (show WP _ _ _ (.region 14 _ _) _ _)); refine WP.drawK rfl mixed (by decide +kernel) (Sm.out ?_))
      | (refine Ob.mk ?_; focus (first | assumption | omega | decide | trivial | (intro hob; simp only [hob, ZF]; done) | (intros; (repeat' refine And.intro ?_ ?_) <;> first | assumption | omega | trivial | decide) | (intros; simp only [ZE] at *; (repeat' refine And.intro ?_ ?_) <;> first | assumption | omega | trivial)))
      | (refine And.intro (Ob.out ?_) ?_)
      | (refine WP.block ?_)
      | (refine WP.cond rfl (fun hc => ?_) (fun hc => ?_) <;> (try simp only [ZC, reduceCtorEq, ZD] at hc) <;> (try (exact absurd hc (by decide))) <;> (try (exfalso; omega)))
      | ((first | refine WP.skip ?_ | refine WP.exit ?_); simp only [SeqQ, BlkQ, LoopQ, BodyQ, ↓reduceIte, Nat.reduceEqDiff, reduceCtorEq, look, true_and])
      | (refine WP.ret (Sm.out ?_))
      | (first | refine ExG.no (Sm.out ?_) | refine Or.inl (ExG.no (Sm.out ?_)) | refine Or.inl (And.intro (fun hg => absurd hg (by decide)) (ExG.no (Sm.out ?_))))
      | (refine Rt.mk ?_; refine And.intro ?_ ?_ <;> (intro hg; first | exact absurd hg (by decide) | refine Sm.out ?_))
      | (refine Nu.mk ?_; first | (fail_if_success (have := nb1)); intro nb1 | (fail_if_success (have := nb2)); intro nb2 | (fail_if_success (have := nb3)); intro nb3 | intro nbz)
      | (refine Fr.mk ?_; intro hfr; replace FR := And.intro hfr FR; clear hfr; refine Sm.out ?_)
      | (refine Two.mk ?_ ?_)
      | (refine Cs.mk ?_; intro hcs; first | exact False.elim hcs | (exfalso; omega) | (refine Sm.out ?_))
      | go_step
      | omega
      | (simp only [maxLen_eq]; omega)
      | (refine Or.inr (Rt.mk ?_); refine And.intro ?_ ?_ <;> (intro hg; first | exact absurd hg (by decide) | refine Sm.out ?_))
    first | (have FRx := FR; clear FRx) | (have FR : ¬ ((1 : Nat) = 0) := Nat.one_ne_zero)
    repeat' first
      | (refine Sm.mk ?_; try simp -dsimp only [ZK, rvc, drawF, headN, pureH, stp, dvc, calleeOf, gcall, pev, eff, newB, okd, og, ogs, ogo, ogp, slv, bltv, opd, litv, strip, one, both, putE, St.put, look, gdOf, gdv, picka, pickv, pickw, binv, bini, bins, binb, binp, bina, shp, eqCells, unv, convv, nilv, faddv, addp, idxav, idxp, load1, load1m, loadn, loadnm, loadv, hget, hset, hrep, hdel, slicev, bnd, shift1, lenv, IntKind.bits, extractv, fieldv, indexv, min2v, max2v, mkiv, cellsA, fillA, buildv, stC, oneC, rowMB, intsA, plN, appE, appZ, appC, appNZ, appNC, VwL, srcC, srcZ, srcM, isBoolT, isPtrT, isSliceT, uOk, Value.oneCell', Nat.reducePow, Int.reducePow, Nat.reduceAdd, Nat.reduceMul, Nat.reduceSub, Nat.reduceLT, Nat.reduceLeDiff, Nat.reduceEqDiff, Nat.reduceBEq, Nat.reduceDiv, Nat.reduceMod, ↓reduceIte, reduceCtorEq, Int.reduceToNat, Int.reduceLT, Int.reduceLE, TFWiR, SeqQ, BlkQ, LoopQ, BodyQ, hlb, FR])
      | (refine WP.seq fun K hK => ?_)
      | (refine WP.region (rvc_sound _ _ (Sm.out ?_)))
      | (refine WP.drawK rfl mixed (by decide +kernel) (Sm.out ?_))
      | (refine Ob.mk ?_; focus (first | assumption | omega | decide | trivial | (intro hob; simp only [hob, ZF]; done) | (intros; (repeat' refine And.intro ?_ ?_) <;> first | assumption | omega | trivial | decide) | (intros; simp only [ZE] at *; (repeat' refine And.intro ?_ ?_) <;> first | assumption | omega | trivial)))
      | (refine And.intro (Ob.out ?_) ?_)
      | (refine WP.block ?_)
      | (refine WP.cond rfl (fun hc => ?_) (fun hc => ?_) <;> (try simp only [ZC, reduceCtorEq, ZD] at hc) <;> (try (exact absurd hc (by decide))) <;> (try (exfalso; omega)))
      | ((first | refine WP.skip ?_ | refine WP.exit ?_); simp only [SeqQ, BlkQ, LoopQ, BodyQ, ↓reduceIte, Nat.reduceEqDiff, reduceCtorEq, look, true_and])
      | (refine WP.ret (Sm.out ?_))
      | (first | refine ExG.no (Sm.out ?_) | refine Or.inl (ExG.no (Sm.out ?_)) | refine Or.inl (And.intro (fun hg => absurd hg (by decide)) (ExG.no (Sm.out ?_))))
      | (refine Rt.mk ?_; refine And.intro ?_ ?_ <;> (intro hg; first | exact absurd hg (by decide) | refine Sm.out ?_))
      | (refine Nu.mk ?_; first | (fail_if_success (have := nb1)); intro nb1 | (fail_if_success (have := nb2)); intro nb2 | (fail_if_success (have := nb3)); intro nb3 | intro nbz)
      | (refine Fr.mk ?_; intro hfr; replace FR := And.intro hfr FR; clear hfr; refine Sm.out ?_)
      | (refine Two.mk ?_ ?_)
      | (refine Cs.mk ?_; intro hcs; first | exact False.elim hcs | (exfalso; omega) | (refine Sm.out ?_))
      | go_step
      | omega
      | (simp only [maxLen_eq]; omega)
      | (refine Or.inr (Rt.mk ?_); refine And.intro ?_ ?_ <;> (intro hg; first | exact absurd hg (by decide) | refine Sm.out ?_))
    refine WP.loop (Γ := GG) (fun g => ⟨[(58, iv .i64 g.j), (57, iv .i64 k), (56, .slz .u8 L), (11, nu (n / 256 ^ (k - g.j))), (8, iv .u8 sg)], [(b, rd rest false)]⟩) (fun g => g.j ≤ k) (fun g => k - g.j) ⟨0⟩ (by simp) (Sub.pick (by simp [pickB, hget, hdel, FR, hlb, hz0]) (by simp [look, hlb, hz0])) ?_
    intro ⟨j⟩ hj
    simp only at hj ⊢
    by_cases hjk : j < k
    · have k1 : decide ((j : Int) < k) = true := by simp; omega
      have g1 : IntKind.i64.wrap ((j : Int) + 1) = ((j + 1 : Nat) : Int) := by rw [wrap_i64 (by omega) (by omega)]; omega
      have e3 : L.getD j 0 = ((n / 256 ^ (k - 1 - j) % 256 : Nat) : Int) := by rw [hL]; exact byteL_at n k j hjk
      obtain ⟨A, hA⟩ : ∃ A, A = n / 256 ^ (k - j) := ⟨_, rfl⟩
      obtain ⟨C, hC⟩ : ∃ C, C = n / 256 ^ (k - 1 - j) := ⟨_, rfl⟩
      have hAC : A = C / 256 := by rw [hA, hC, show k - j = (k - 1 - j) + 1 by omega, Nat.pow_succ, Nat.div_div_eq_div_mul]
      have hCn : C ≤ n := by rw [hC]; exact Nat.div_le_self _ _
      have hC2 : n / 256 ^ (k - (j + 1)) = C := by rw [hC, show k - (j + 1) = k - 1 - j by omega]
      rw [← hC] at e3
      rw [← hA]
      have e4 : IntKind.u64.wrap ((A : Int) * 256) = ((A * 256 : Nat) : Int) := by rw [show (A : Int) * 256 = ((A * 256 : Nat) : Int) by simp, wrap_u64_nat (by omega)]
      have e5 : IntKind.u64.wrap ((C % 256 : Nat) : Int) = ((C % 256 : Nat) : Int) := wrap_u64_nat (by omega)
      have e6 := or8 A (C % 256) (by omega) (by omega)
      have e7 : A * 256 + C % 256 = C := by omega
      rw [e7] at e6
      have q : j < L.length := by omega
      first | (have FRx := FR; clear FRx) | (have FR : ¬ ((1 : Nat) = 0) := Nat.one_ne_zero)
      repeat' first
        | (refine Sm.mk ?_; try simp -dsimp only [ZK, rvc, drawF, headN, pureH, stp, dvc, calleeOf, gcall, pev, eff, newB, okd, og, ogs, ogo, ogp, slv, bltv, opd, litv, strip, one, both, putE, St.put, look, gdOf, gdv, picka, pickv, pickw, binv, bini, bins, binb, binp, bina, shp, eqCells, unv, convv, nilv, faddv, addp, idxav, idxp, load1, load1m, loadn, loadnm, loadv, hget, hset, hrep, hdel, slicev, bnd, shift1, lenv, IntKind.bits, extractv, fieldv, indexv, min2v, max2v, mkiv, cellsA, fillA, buildv, stC, oneC, rowMB, intsA, plN, appE, appZ, appC, appNZ, appNC, VwL, srcC, srcZ, srcM, isBoolT, isPtrT, isSliceT, uOk, Value.oneCell', Nat.reducePow, Int.reducePow, Nat.reduceAdd, Nat.reduceMul, Nat.reduceSub, Nat.reduceLT, Nat.reduceLeDiff, Nat.reduceEqDiff, Nat.reduceBEq, Nat.reduceDiv, Nat.reduceMod, ↓reduceIte, reduceCtorEq, Int.reduceToNat, Int.reduceLT, Int.reduceLE, TFWiR, SeqQ, BlkQ, LoopQ, BodyQ, k1, g1, e3, e4, e5, e6, q, hlb, FR])
        | (refine WP.seq fun K hK => ?_)
        | (refine WP.region (rvc_sound _ _ (Sm.out ?_)))
        | (refine WP.drawK rfl mixed (by decide +kernel) (Sm.out ?_))
        | (refine Ob.mk ?_; focus (first | assumption | omega | decide | trivial | (intro hob; simp only [hob, ZF]; done) | (intros; (repeat' refine And.intro ?_ ?_) <;> first | assumption | omega | trivial | decide) | (intros; simp only [ZE] at *; (repeat' refine And.intro ?_ ?_) <;> first | assumption | omega | trivial)))
        | (refine And.intro (Ob.out ?_) ?_)
        | (refine WP.block ?_)
        | (refine WP.cond rfl (fun hc => ?_) (fun hc => ?_) <;> (try simp only [ZC, reduceCtorEq, ZD] at hc) <;> (try (exact absurd hc (by decide))) <;> (try (exfalso; omega)))
        | ((first | refine WP.skip ?_ | refine WP.exit ?_); simp only [SeqQ, BlkQ, LoopQ, BodyQ, ↓reduceIte, Nat.reduceEqDiff, reduceCtorEq, look, true_and])
        | (refine WP.ret (Sm.out ?_))
        | (first | refine ExG.no (Sm.out ?_) | refine Or.inl (ExG.no (Sm.out ?_)) | refine Or.inl (And.intro (fun hg => absurd hg (by decide)) (ExG.no (Sm.out ?_))))
        | (refine Rt.mk ?_; refine And.intro ?_ ?_ <;> (intro hg; first | exact absurd hg (by decide) | refine Sm.out ?_))
        | (refine Nu.mk ?_; first | (fail_if_success (have := nb1)); intro nb1 | (fail_if_success (have := nb2)); intro nb2 | (fail_if_success (have := nb3)); intro nb3 | intro nbz)
        | (refine Fr.mk ?_; intro hfr; replace FR := And.intro hfr FR; clear hfr; refine Sm.out ?_)
        | (refine Two.mk ?_ ?_)
        | (refine Cs.mk ?_; intro hcs; first | exact False.elim hcs | (exfalso; omega) | (refine Sm.out ?_))
        | go_step
        | omega
        | (simp only [maxLen_eq]; omega)
        | (refine Or.inr (Rt.mk ?_); refine And.intro ?_ ?_ <;> (intro hg; first | exact absurd hg (by decide) | refine Sm.out ?_))
      all_goals exact ⟨⟨j + 1⟩, by simp only; omega, by simp only; omega, (Sub.pick (by simp [pickB, hget, hdel, FR, hC2]) (by simp [look, hC2]))⟩
    · have k1 : decide ((j : Int) < k) = false := by simp; omega
      obtain rfl : j = k := by omega
      have e8 : n / 256 ^ (j - j) = n := by simp
      first | (have FRx := FR; clear FRx) | (have FR : ¬ ((1 : Nat) = 0) := Nat.one_ne_zero)
      repeat' first
        | (refine Sm.mk ?_; try simp -dsimp only [ZK, rvc, drawF, headN, pureH, stp, dvc, calleeOf, gcall, pev, eff, newB, okd, og, ogs, ogo, ogp, slv, bltv, opd, litv, strip, one, both, putE, St.put, look, gdOf, gdv, picka, pickv, pickw, binv, bini, bins, binb, binp, bina, shp, eqCells, unv, convv, nilv, faddv, addp, idxav, idxp, load1, load1m, loadn, loadnm, loadv, hget, hset, hrep, hdel, slicev, bnd, shift1, lenv, IntKind.bits, extractv, fieldv, indexv, min2v, max2v, mkiv, cellsA, fillA, buildv, stC, oneC, rowMB, intsA, plN, appE, appZ, appC, appNZ, appNC, VwL, srcC, srcZ, srcM, isBoolT, isPtrT, isSliceT, uOk, Value.oneCell', Nat.reducePow, Int.reducePow, Nat.reduceAdd, Nat.reduceMul, Nat.reduceSub, Nat.reduceLT, Nat.reduceLeDiff, Nat.reduceEqDiff, Nat.reduceBEq, Nat.reduceDiv, Nat.reduceMod, ↓reduceIte, reduceCtorEq, Int.reduceToNat, Int.reduceLT, Int.reduceLE, TFWiR, SeqQ, BlkQ, LoopQ, BodyQ, k1, e8, FR])
        | (refine WP.seq fun K hK => ?_)
        | (refine WP.region (rvc_sound _ _ (Sm.out ?_)))
        | (refine WP.drawK rfl mixed (by decide +kernel) (Sm.out ?_))
        | (refine Ob.mk ?_; focus (first | assumption | omega | decide | trivial | (intro hob; simp only [hob, ZF]; done) | (intros; (repeat' refine And.intro ?_ ?_) <;> first | assumption | omega | trivial | decide) | (intros; simp only [ZE] at *; (repeat' refine And.intro ?_ ?_) <;> first | assumption | omega | trivial)))
        | (refine And.intro (Ob.out ?_) ?_)
        | (refine WP.block ?_)
        | (refine WP.cond rfl (fun hc => ?_) (fun hc => ?_) <;> (try simp only [ZC, reduceCtorEq, ZD] at hc) <;> (try (exact absurd hc (by decide))) <;> (try (exfalso; omega)))
        | ((first | refine WP.skip ?_ | refine WP.exit ?_); simp only [SeqQ, BlkQ, LoopQ, BodyQ, ↓reduceIte, Nat.reduceEqDiff, reduceCtorEq, look, true_and])
        | (refine WP.ret (Sm.out ?_))
        | (first | refine ExG.no (Sm.out ?_) | refine Or.inl (ExG.no (Sm.out ?_)) | refine Or.inl (And.intro (fun hg => absurd hg (by decide)) (ExG.no (Sm.out ?_))))
        | (refine Rt.mk ?_; refine And.intro ?_ ?_ <;> (intro hg; first | exact absurd hg (by decide) | refine Sm.out ?_))
        | (refine Nu.mk ?_; first | (fail_if_success (have := nb1)); intro nb1 | (fail_if_success (have := nb2)); intro nb2 | (fail_if_success (have := nb3)); intro nb3 | intro nbz)
        | (refine Fr.mk ?_; intro hfr; replace FR := And.intro hfr FR; clear hfr; refine Sm.out ?_)
        | (refine Two.mk ?_ ?_)
        | (refine Cs.mk ?_; intro hcs; first | exact False.elim hcs | (exfalso; omega) | (refine Sm.out ?_))
        | go_step
        | omega
        | (simp only [maxLen_eq]; omega)
        | (refine Or.inr (Rt.mk ?_); refine And.intro ?_ ?_ <;> (intro hg; first | exact absurd hg (by decide) | refine Sm.out ?_))
      (refine OutQ.upd (by simp only [resv, ZK, look, loadv, loadn, loadnm, load1, load1m, hget, ↓reduceIte, Nat.reduceEqDiff, Nat.reduceAdd, Nat.reduceMul, Nat.reduceLeDiff, Nat.reduceLT, reduceCtorEq, TFWiR, FR, e8]) (by simp only [resv, resA, ZK, look, loadv, loadn, loadnm, load1, load1m, hget, ↓reduceIte, Nat.reduceEqDiff, Nat.reduceAdd, Nat.reduceMul, Nat.reduceLeDiff, Nat.reduceLT, reduceCtorEq, TFWiR, FR, e8]; first | done | rfl) (by simp only [hget, ↓reduceIte, if_true, if_false, FR, e8]; first | done | rfl) ?_ <;> first | exact rfl | (simp only [ZK, look, loadv, loadn, loadnm, load1, load1m, hget, ↓reduceIte, Nat.reduceEqDiff, Nat.reduceAdd, Nat.reduceMul, Nat.reduceLeDiff, Nat.reduceLT, reduceCtorEq, TFWiR, FR, e8]; done) | skip)
  · have d2 : decide ((k : Int) > 0) = true := by simp; omega
    rw [d2, Bool.true_and] at cc
    have hL0 : 0 < L.length := by omega
    first | (have FRx := FR; clear FRx) | (have FR : ¬ ((1 : Nat) = 0) := Nat.one_ne_zero)
    repeat' first
      | (refine Sm.mk ?_; try simp -dsimp only [ZK, rvc, drawF, headN, pureH, stp, dvc, calleeOf, gcall, pev, eff, newB, okd, og, ogs, ogo, ogp, slv, bltv, opd, litv, strip, one, both, putE, St.put, look, gdOf, gdv, picka, pickv, pickw, binv, bini, bins, binb, binp, bina, shp, eqCells, unv, convv, nilv, faddv, addp, idxav, idxp, load1, load1m, loadn, loadnm, loadv, hget, hset, hrep, hdel, slicev, bnd, shift1, lenv, IntKind.bits, extractv, fieldv, indexv, min2v, max2v, mkiv, cellsA, fillA, buildv, stC, oneC, rowMB, intsA, plN, appE, appZ, appC, appNZ, appNC, VwL, srcC, srcZ, srcM, isBoolT, isPtrT, isSliceT, uOk, Value.oneCell', Nat.reducePow, Int.reducePow, Nat.reduceAdd, Nat.reduceMul, Nat.reduceSub, Nat.reduceLT, Nat.reduceLeDiff, Nat.reduceEqDiff, Nat.reduceBEq, Nat.reduceDiv, Nat.reduceMod, ↓reduceIte, reduceCtorEq, Int.reduceToNat, Int.reduceLT, Int.reduceLE, TFWiR, SeqQ, BlkQ, LoopQ, BodyQ, h1, h2, d1, d2, w1, cc, hL0, List.getD_cons_zero, FR])
      | (refine CallV.upd (by simp only [hget, ↓reduceIte, FR, h1, h2, d1, d2, w1, cc, hL0, List.getD_cons_zero]; first | done | rfl) (c3) (Sm.out ?_))
      | (refine CallV.upd (by simp only [hget, ↓reduceIte, FR, h1, h2, d1, d2, w1, cc, hL0, List.getD_cons_zero]; first | done | rfl) (c2) (Sm.out ?_))
      | (refine WP.seq fun K hK => ?_)
      | ((fail_if_success (show WP _ _ _ (.region 14 _ _) _ _)); refine WP.region (rvc_sound _ _ (Sm.out ?_)))
      | ((fail_if_success (show WP _ _ _ (.region 14 _ _) _ _)); refine WP.drawK rfl mixed (by decide +kernel) (Sm.out ?_))
      | (refine Ob.mk ?_; focus (first | assumption | omega | decide | trivial | (intro hob; simp only [hob, ZF]; done) | (intros; (repeat' refine And.intro ?_ ?_) <;> first | assumption | omega | trivial | decide) | (intros; simp only [ZE] at *; (repeat' refine And.intro ?_ ?_) <;> first | assumption | omega | trivial)))
      | (refine And.intro (Ob.out ?_) ?_)
      | (refine WP.block ?_)
      | (refine WP.cond rfl (fun hc => ?_) (fun hc => ?_) <;> (try simp only [ZC, reduceCtorEq, ZD] at hc) <;> (try (exact absurd hc (by decide))) <;> (try (exfalso; omega)))
      | ((first | refine WP.skip ?_ | refine WP.exit ?_); simp only [SeqQ, BlkQ, LoopQ, BodyQ, ↓reduceIte, Nat.reduceEqDiff, reduceCtorEq, look, true_and])
      | (refine WP.ret (Sm.out ?_))
      | (first | refine ExG.no (Sm.out ?_) | refine Or.inl (ExG.no (Sm.out ?_)) | refine Or.inl (And.intro (fun hg => absurd hg (by decide)) (ExG.no (Sm.out ?_))))
      | (refine Rt.mk ?_; refine And.intro ?_ ?_ <;> (intro hg; first | exact absurd hg (by decide) | refine Sm.out ?_))
      | (refine Nu.mk ?_; first | (fail_if_success (have := nb1)); intro nb1 | (fail_if_success (have := nb2)); intro nb2 | (fail_if_success (have := nb3)); intro nb3 | intro nbz)
      | (refine Fr.mk ?_; intro hfr; replace FR := And.intro hfr FR; clear hfr; refine Sm.out ?_)
      | (refine Two.mk ?_ ?_)
      | (refine Cs.mk ?_; intro hcs; first | exact False.elim hcs | (exfalso; omega) | (refine Sm.out ?_))
      | go_step
      | omega
      | (simp only [maxLen_eq]; omega)
      | (refine Or.inr (Rt.mk ?_); refine And.intro ?_ ?_ <;> (intro hg; first | exact absurd hg (by decide) | refine Sm.out ?_))
    first | (have FRx := FR; clear FRx) | (have FR : ¬ ((1 : Nat) = 0) := Nat.one_ne_zero)
    repeat' first
      | (refine Sm.mk ?_; try simp -dsimp only [ZK, rvc, drawF, headN, pureH, stp, dvc, calleeOf, gcall, pev, eff, newB, okd, og, ogs, ogo, ogp, slv, bltv, opd, litv, strip, one, both, putE, St.put, look, gdOf, gdv, picka, pickv, pickw, binv, bini, bins, binb, binp, bina, shp, eqCells, unv, convv, nilv, faddv, addp, idxav, idxp, load1, load1m, loadn, loadnm, loadv, hget, hset, hrep, hdel, slicev, bnd, shift1, lenv, IntKind.bits, extractv, fieldv, indexv, min2v, max2v, mkiv, cellsA, fillA, buildv, stC, oneC, rowMB, intsA, plN, appE, appZ, appC, appNZ, appNC, VwL, srcC, srcZ, srcM, isBoolT, isPtrT, isSliceT, uOk, Value.oneCell', Nat.reducePow, Int.reducePow, Nat.reduceAdd, Nat.reduceMul, Nat.reduceSub, Nat.reduceLT, Nat.reduceLeDiff, Nat.reduceEqDiff, Nat.reduceBEq, Nat.reduceDiv, Nat.reduceMod, ↓reduceIte, reduceCtorEq, Int.reduceToNat, Int.reduceLT, Int.reduceLE, TFWiR, SeqQ, BlkQ, LoopQ, BodyQ, hlb, FR])
      | (refine WP.seq fun K hK => ?_)
      | (refine WP.region (rvc_sound _ _ (Sm.out ?_)))
      | (refine WP.drawK rfl mixed (by decide +kernel) (Sm.out ?_))
      | (refine Ob.mk ?_; focus (first | assumption | omega | decide | trivial | (intro hob; simp only [hob, ZF]; done) | (intros; (repeat' refine And.intro ?_ ?_) <;> first | assumption | omega | trivial | decide) | (intros; simp only [ZE] at *; (repeat' refine And.intro ?_ ?_) <;> first | assumption | omega | trivial)))
      | (refine And.intro (Ob.out ?_) ?_)
      | (refine WP.block ?_)
      | (refine WP.cond rfl (fun hc => ?_) (fun hc => ?_) <;> (try simp only [ZC, reduceCtorEq, ZD] at hc) <;> (try (exact absurd hc (by decide))) <;> (try (exfalso; omega)))
      | ((first | refine WP.skip ?_ | refine WP.exit ?_); simp only [SeqQ, BlkQ, LoopQ, BodyQ, ↓reduceIte, Nat.reduceEqDiff, reduceCtorEq, look, true_and])
      | (refine WP.ret (Sm.out ?_))
      | (first | refine ExG.no (Sm.out ?_) | refine Or.inl (ExG.no (Sm.out ?_)) | refine Or.inl (And.intro (fun hg => absurd hg (by decide)) (ExG.no (Sm.out ?_))))
      | (refine Rt.mk ?_; refine And.intro ?_ ?_ <;> (intro hg; first | exact absurd hg (by decide) | refine Sm.out ?_))
      | (refine Nu.mk ?_; first | (fail_if_success (have := nb1)); intro nb1 | (fail_if_success (have := nb2)); intro nb2 | (fail_if_success (have := nb3)); intro nb3 | intro nbz)
      | (refine Fr.mk ?_; intro hfr; replace FR := And.intro hfr FR; clear hfr; refine Sm.out ?_)
      | (refine Two.mk ?_ ?_)
      | (refine Cs.mk ?_; intro hcs; first | exact False.elim hcs | (exfalso; omega) | (refine Sm.out ?_))
      | go_step
      | omega
      | (simp only [maxLen_eq]; omega)
      | (refine Or.inr (Rt.mk ?_); refine And.intro ?_ ?_ <;> (intro hg; first | exact absurd hg (by decide) | refine Sm.out ?_))
    refine WP.loop (Γ := GG) (fun g => ⟨[(58, iv .i64 g.j), (57, iv .i64 k), (56, .slz .u8 L), (11, nu (n / 256 ^ (k - g.j))), (8, iv .u8 sg)], [(b, rd rest false)]⟩) (fun g => g.j ≤ k) (fun g => k - g.j) ⟨0⟩ (by simp) (Sub.pick (by simp [pickB, hget, hdel, FR, hlb, hz0]) (by simp [look, hlb, hz0])) ?_
    intro ⟨j⟩ hj
    simp only at hj ⊢
    by_cases hjk : j < k
    · have k1 : decide ((j : Int) < k) = true := by simp; omega
      have g1 : IntKind.i64.wrap ((j : Int) + 1) = ((j + 1 : Nat) : Int) := by rw [wrap_i64 (by omega) (by omega)]; omega
      have e3 : L.getD j 0 = ((n / 256 ^ (k - 1 - j) % 256 : Nat) : Int) := by rw [hL]; exact byteL_at n k j hjk
      obtain ⟨A, hA⟩ : ∃ A, A = n / 256 ^ (k - j) := ⟨_, rfl⟩
      obtain ⟨C, hC⟩ : ∃ C, C = n / 256 ^ (k - 1 - j) := ⟨_, rfl⟩
      have hAC : A = C / 256 := by rw [hA, hC, show k - j = (k - 1 - j) + 1 by omega, Nat.pow_succ, Nat.div_div_eq_div_mul]
      have hCn : C ≤ n := by rw [hC]; exact Nat.div_le_self _ _
      have hC2 : n / 256 ^ (k - (j + 1)) = C := by rw [hC, show k - (j + 1) = k - 1 - j by omega]
      rw [← hC] at e3
      rw [← hA]
      have e4 : IntKind.u64.wrap ((A : Int) * 256) = ((A * 256 : Nat) : Int) := by rw [show (A : Int) * 256 = ((A * 256 : Nat) : Int) by simp, wrap_u64_nat (by omega)]
      have e5 : IntKind.u64.wrap ((C % 256 : Nat) : Int) = ((C % 256 : Nat) : Int) := wrap_u64_nat (by omega)
      have e6 := or8 A (C % 256) (by omega) (by omega)
      have e7 : A * 256 + C % 256 = C := by omega
      rw [e7] at e6
      have q : j < L.length := by omega
      first | (have FRx := FR; clear FRx) | (have FR : ¬ ((1 : Nat) = 0) := Nat.one_ne_zero)
      repeat' first
        | (refine Sm.mk ?_; try simp -dsimp only [ZK, rvc, drawF, headN, pureH, stp, dvc, calleeOf, gcall, pev, eff, newB, okd, og, ogs, ogo, ogp, slv, bltv, opd, litv, strip, one, both, putE, St.put, look, gdOf, gdv, picka, pickv, pickw, binv, bini, bins, binb, binp, bina, shp, eqCells, unv, convv, nilv, faddv, addp, idxav, idxp, load1, load1m, loadn, loadnm, loadv, hget, hset, hrep, hdel, slicev, bnd, shift1, lenv, IntKind.bits, extractv, fieldv, indexv, min2v, max2v, mkiv, cellsA, fillA, buildv, stC, oneC, rowMB, intsA, plN, appE, appZ, appC, appNZ, appNC, VwL, srcC, srcZ, srcM, isBoolT, isPtrT, isSliceT, uOk, Value.oneCell', Nat.reducePow, Int.reducePow, Nat.reduceAdd, Nat.reduceMul, Nat.reduceSub, Nat.reduceLT, Nat.reduceLeDiff, Nat.reduceEqDiff, Nat.reduceBEq, Nat.reduceDiv, Nat.reduceMod, ↓reduceIte, reduceCtorEq, Int.reduceToNat, Int.reduceLT, Int.reduceLE, TFWiR, SeqQ, BlkQ, LoopQ, BodyQ, k1, g1, e3, e4, e5, e6, q, hlb, FR])
        | (refine WP.seq fun K hK => ?_)
        | (refine WP.region (rvc_sound _ _ (Sm.out ?_)))
        | (refine WP.drawK rfl mixed (by decide +kernel) (Sm.out ?_))
        | (refine Ob.mk ?_; focus (first | assumption | omega | decide | trivial | (intro hob; simp only [hob, ZF]; done) | (intros; (repeat' refine And.intro ?_ ?_) <;> first | assumption | omega | trivial | decide) | (intros; simp only [ZE] at *; (repeat' refine And.intro ?_ ?_) <;> first | assumption | omega | trivial)))
        | (refine And.intro (Ob.out ?_) ?_)
        | (refine WP.block ?_)
        | (refine WP.cond rfl (fun hc => ?_) (fun hc => ?_) <;> (try simp only [ZC, reduceCtorEq, ZD] at hc) <;> (try (exact absurd hc (by decide))) <;> (try (exfalso; omega)))
        | ((first | refine WP.skip ?_ | refine WP.exit ?_); simp only [SeqQ, BlkQ, LoopQ, BodyQ, ↓reduceIte, Nat.reduceEqDiff, reduceCtorEq, look, true_and])
        | (refine WP.ret (Sm.out ?_))
        | (first | refine ExG.no (Sm.out ?_) | refine Or.inl (ExG.no (Sm.out ?_)) | refine Or.inl (And.intro (fun hg => absurd hg (by decide)) (ExG.no (Sm.out ?_))))
        | (refine Rt.mk ?_; refine And.intro ?_ ?_ <;> (intro hg; first | exact absurd hg (by decide) | refine Sm.out ?_))
        | (refine Nu.mk ?_; first | (fail_if_success (have := nb1)); intro nb1 | (fail_if_success (have := nb2)); intro nb2 | (fail_if_success (have := nb3)); intro nb3 | intro nbz)
        | (refine Fr.mk ?_; intro hfr; replace FR := And.intro hfr FR; clear hfr; refine Sm.out ?_)
        | (refine Two.mk ?_ ?_)
        | (refine Cs.mk ?_; intro hcs; first | exact False.elim hcs | (exfalso; omega) | (refine Sm.out ?_))
        | go_step
        | omega
        | (simp only [maxLen_eq]; omega)
        | (refine Or.inr (Rt.mk ?_); refine And.intro ?_ ?_ <;> (intro hg; first | exact absurd hg (by decide) | refine Sm.out ?_))
      all_goals exact ⟨⟨j + 1⟩, by simp only; omega, by simp only; omega, (Sub.pick (by simp [pickB, hget, hdel, FR, hC2]) (by simp [look, hC2]))⟩
    · have k1 : decide ((j : Int) < k) = false := by simp; omega
      obtain rfl : j = k := by omega
      have e8 : n / 256 ^ (j - j) = n := by simp
      first | (have FRx := FR; clear FRx) | (have FR : ¬ ((1 : Nat) = 0) := Nat.one_ne_zero)
      repeat' first
        | (refine Sm.mk ?_; try simp -dsimp only [ZK, rvc, drawF, headN, pureH, stp, dvc, calleeOf, gcall, pev, eff, newB, okd, og, ogs, ogo, ogp, slv, bltv, opd, litv, strip, one, both, putE, St.put, look, gdOf, gdv, picka, pickv, pickw, binv, bini, bins, binb, binp, bina, shp, eqCells, unv, convv, nilv, faddv, addp, idxav, idxp, load1, load1m, loadn, loadnm, loadv, hget, hset, hrep, hdel, slicev, bnd, shift1, lenv, IntKind.bits, extractv, fieldv, indexv, min2v, max2v, mkiv, cellsA, fillA, buildv, stC, oneC, rowMB, intsA, plN, appE, appZ, appC, appNZ, appNC, VwL, srcC, srcZ, srcM, isBoolT, isPtrT, isSliceT, uOk, Value.oneCell', Nat.reducePow, Int.reducePow, Nat.reduceAdd, Nat.reduceMul, Nat.reduceSub, Nat.reduceLT, Nat.reduceLeDiff, Nat.reduceEqDiff, Nat.reduceBEq, Nat.reduceDiv, Nat.reduceMod, ↓reduceIte, reduceCtorEq, Int.reduceToNat, Int.reduceLT, Int.reduceLE, TFWiR, SeqQ, BlkQ, LoopQ, BodyQ, k1, e8, FR])
        | (refine WP.seq fun K hK => ?_)
        | (refine WP.region (rvc_sound _ _ (Sm.out ?_)))
        | (refine WP.drawK rfl mixed (by decide +kernel) (Sm.out ?_))
        | (refine Ob.mk ?_; focus (first | assumption | omega | decide | trivial | (intro hob; simp only [hob, ZF]; done) | (intros; (repeat' refine And.intro ?_ ?_) <;> first | assumption | omega | trivial | decide) | (intros; simp only [ZE] at *; (repeat' refine And.intro ?_ ?_) <;> first | assumption | omega | trivial)))
        | (refine And.intro (Ob.out ?_) ?_)
        | (refine WP.block ?_)
        | (refine WP.cond rfl (fun hc => ?_) (fun hc => ?_) <;> (try simp only [ZC, reduceCtorEq, ZD] at hc) <;> (try (exact absurd hc (by decide))) <;> (try (exfalso; omega)))
        | ((first | refine WP.skip ?_ | refine WP.exit ?_); simp only [SeqQ, BlkQ, LoopQ, BodyQ, ↓reduceIte, Nat.reduceEqDiff, reduceCtorEq, look, true_and])
        | (refine WP.ret (Sm.out ?_))
        | (first | refine ExG.no (Sm.out ?_) | refine Or.inl (ExG.no (Sm.out ?_)) | refine Or.inl (And.intro (fun hg => absurd hg (by decide)) (ExG.no (Sm.out ?_))))
        | (refine Rt.mk ?_; refine And.intro ?_ ?_ <;> (intro hg; first | exact absurd hg (by decide) | refine Sm.out ?_))
        | (refine Nu.mk ?_; first | (fail_if_success (have := nb1)); intro nb1 | (fail_if_success (have := nb2)); intro nb2 | (fail_if_success (have := nb3)); intro nb3 | intro nbz)
        | (refine Fr.mk ?_; intro hfr; replace FR := And.intro hfr FR; clear hfr; refine Sm.out ?_)
        | (refine Two.mk ?_ ?_)
        | (refine Cs.mk ?_; intro hcs; first | exact False.elim hcs | (exfalso; omega) | (refine Sm.out ?_))
        | go_step
        | omega
        | (simp only [maxLen_eq]; omega)
        | (refine Or.inr (Rt.mk ?_); refine And.intro ?_ ?_ <;> (intro hg; first | exact absurd hg (by decide) | refine Sm.out ?_))
      (refine OutQ.upd (by simp only [resv, ZK, look, loadv, loadn, loadnm, load1, load1m, hget, ↓reduceIte, Nat.reduceEqDiff, Nat.reduceAdd, Nat.reduceMul, Nat.reduceLeDiff, Nat.reduceLT, reduceCtorEq, TFWiR, FR, e8]) (by simp only [resv, resA, ZK, look, loadv, loadn, loadnm, load1, load1m, hget, ↓reduceIte, Nat.reduceEqDiff, Nat.reduceAdd, Nat.reduceMul, Nat.reduceLeDiff, Nat.reduceLT, reduceCtorEq, TFWiR, FR, e8]; first | done | rfl) (by simp only [hget, ↓reduceIte, if_true, if_false, FR, e8]; first | done | rfl) ?_ <;> first | exact rfl | (simp only [ZK, look, loadv, loadn, loadnm, load1, load1m, hget, ↓reduceIte, Nat.reduceEqDiff, Nat.reduceAdd, Nat.reduceMul, Nat.reduceLeDiff, Nat.reduceLT, reduceCtorEq, TFWiR, FR, e8]; done) | skip)
end Go.Proofs.Ytljfldoekamccaa.Wi
namespace Go.Proofs.Ytljfldoekamccaa.Wi
open Go
set_option linter.unusedVariables false
set_option linter.unusedSimpArgs false
theorem and16 : ∀ k : Nat, k < 9 → ibit .and .u8 (16 + (k : Int)) 16 = 16 ∧ ibit .andNot .u8 (16 + (k : Int)) 16 = (k : Int) ∧ ibit .and .u8 (k : Int) 16 = 0 ∧ ibit .andNot .u8 (k : Int) 16 = (k : Int) ∧ ibit .and .u8 (k : Int) 0 = 0 ∧ ibit .andNot .u8 (k : Int) 0 = (k : Int) := by decide +kernel
theorem putL0 (n : Nat) (hn : n < 18446744073709551616) : ∃ k, k = (lenN n + 7) / 8 ∧ k < 9 ∧ putL 0 n = (k : Int) :: byteL n k ∧ putL 16 n = (16 + (k : Int)) :: byteL n k := by
  have hl : lenN n ≤ 64 := lenN_le.2 hn
  refine ⟨_, rfl, by omega, ?_, ?_⟩
  · unfold putL; rw [or0 _ (by omega)]
  · unfold putL; rw [or16 _ (by omega)]
end Go.Proofs.Ytljfldoekamccaa.Wi
namespace Go.Proofs.Ytljfldoekamccaa.Wi
open Go
set_option linter.unusedVariables false
set_option linter.unusedSimpArgs false
abbrev nilS : AV := .lit (.slice none 0 0)
end Go.Proofs.Ytljfldoekamccaa.Wi
namespace Go.Proofs.Ytljfldoekamccaa.Wi
open Go
set_option linter.unusedVariables false
set_option linter.unusedSimpArgs false
theorem TFWiM : ((((((type_of% tyc0) ∧ (type_of% tyc3)) ∧ ((type_of% zmb3) ∧ ((type_of% tyc4) ∧ (type_of% zmb4)))) ∧ (((type_of% tyc5) ∧ ((type_of% zmb5) ∧ (type_of% tyc22))) ∧ ((type_of% zmb22) ∧ ((type_of% tyc38) ∧ (type_of% elt38))))) ∧ ((((type_of% mkz38) ∧ ((type_of% apT38) ∧ (type_of% elk38))) ∧ ((type_of% zmb38) ∧ ((type_of% tyc44) ∧ (type_of% mth44_35)))) ∧ (((type_of% mth44_36) ∧ ((type_of% mth44_39) ∧ (type_of% con44))) ∧ ((type_of% zmb44) ∧ ((type_of% tyc48) ∧ (type_of% zmb48)))))) ∧ (((((type_of% tyc64) ∧ (type_of% foff64_0)) ∧ ((type_of% fpart64_0) ∧ ((type_of% foff64_1) ∧ (type_of% fpart64_1)))) ∧ (((type_of% zmb64) ∧ ((type_of% bldT64) ∧ (type_of% tyc81))) ∧ ((type_of% tyc90) ∧ ((type_of% tyc92) ∧ (type_of% zmb92))))) ∧ ((((type_of% Try.underlying0) ∧ ((type_of% Try.underlying3) ∧ (type_of% Try.underlying4))) ∧ ((type_of% Try.underlying5) ∧ ((type_of% Try.underlying22) ∧ (type_of% Try.underlying38)))) ∧ (((type_of% Try.underlying44) ∧ ((type_of% Try.underlying48) ∧ (type_of% Try.underlying64))) ∧ ((type_of% Try.underlying81) ∧ ((type_of% Try.underlying90) ∧ (type_of% Try.underlying92))))))) :=
  ⟨⟨⟨⟨⟨tyc0, tyc3⟩, ⟨zmb3, ⟨tyc4, zmb4⟩⟩⟩, ⟨⟨tyc5, ⟨zmb5, tyc22⟩⟩, ⟨zmb22, ⟨tyc38, elt38⟩⟩⟩⟩, ⟨⟨⟨mkz38, ⟨apT38, elk38⟩⟩, ⟨zmb38, ⟨tyc44, mth44_35⟩⟩⟩, ⟨⟨mth44_36, ⟨mth44_39, con44⟩⟩, ⟨zmb44, ⟨tyc48, zmb48⟩⟩⟩⟩⟩, ⟨⟨⟨⟨tyc64, foff64_0⟩, ⟨fpart64_0, ⟨foff64_1, fpart64_1⟩⟩⟩, ⟨⟨zmb64, ⟨bldT64, tyc81⟩⟩, ⟨tyc90, ⟨tyc92, zmb92⟩⟩⟩⟩, ⟨⟨⟨Try.underlying0, ⟨Try.underlying3, Try.underlying4⟩⟩, ⟨Try.underlying5, ⟨Try.underlying22, Try.underlying38⟩⟩⟩, ⟨⟨Try.underlying44, ⟨Try.underlying48, Try.underlying64⟩⟩, ⟨Try.underlying81, ⟨Try.underlying90, Try.underlying92⟩⟩⟩⟩⟩⟩
/-! One of no bytes -/
abbrev Kp (b : Nat) (x : AV) (f g : Bool) : AV → Hp → Prop := fun r F' => r = x ∧ F' = [(b, .cells [nilS, bv g] 2 64)]
theorem bad_e (b : Nat) (f : Bool) : ACt Try.prog 21 [pt b 0] [(b, .cells [nilS, bv f] 2 64)] (fun r F' => r = bv f ∧ F' = [(b, .cells [nilS, bv f] 2 64)]) := by
  refine ACt.intro Try.func21 rfl (by kernel_rfl) (by simp [Try.ntmps21]) (fun cx => ?_)
  simp only [argE, Try.ntmps21, Try.results21]
  first | (have FRx := FR; clear FRx) | (have FR : ¬ ((1 : Nat) = 0) := Nat.one_ne_zero)
  repeat' first
    | (refine Sm.mk ?_; try simp -dsimp only [ZK, rvc, drawF, headN, pureH, stp, dvc, calleeOf, gcall, pev, eff, newB, okd, og, ogs, ogo, ogp, slv, bltv, opd, litv, strip, one, both, putE, St.put, look, gdOf, gdv, picka, pickv, pickw, binv, bini, bins, binb, binp, bina, shp, eqCells, unv, convv, nilv, faddv, addp, idxav, idxp, load1, load1m, loadn, loadnm, loadv, hget, hset, hrep, hdel, slicev, bnd, shift1, lenv, IntKind.bits, extractv, fieldv, indexv, min2v, max2v, mkiv, cellsA, fillA, buildv, stC, oneC, rowMB, intsA, plN, appE, appZ, appC, appNZ, appNC, VwL, srcC, srcZ, srcM, isBoolT, isPtrT, isSliceT, uOk, Value.oneCell', Nat.reducePow, Int.reducePow, Nat.reduceAdd, Nat.reduceMul, Nat.reduceSub, Nat.reduceLT, Nat.reduceLeDiff, Nat.reduceEqDiff, Nat.reduceBEq, Nat.reduceDiv, Nat.reduceMod, ↓reduceIte, reduceCtorEq, Int.reduceToNat, Int.reduceLT, Int.reduceLE, TFWiM, SeqQ, BlkQ, LoopQ, BodyQ, FR])
    | (refine WP.seq fun K hK => ?_)
    | (refine WP.region (rvc_sound _ _ (Sm.out ?_)))
    | (refine WP.drawK rfl mixed (by decide +kernel) (Sm.out ?_))
    | (refine Ob.mk ?_; focus (first | assumption | omega | decide | trivial | (intro hob; simp only [hob, ZF]; done) | (intros; (repeat' refine And.intro ?_ ?_) <;> first | assumption | omega | trivial | decide) | (intros; simp only [ZE] at *; (repeat' refine And.intro ?_ ?_) <;> first | assumption | omega | trivial)))
    | (refine And.intro (Ob.out ?_) ?_)
    | (refine WP.block ?_)
    | (refine WP.cond rfl (fun hc => ?_) (fun hc => ?_) <;> (try simp only [ZC, reduceCtorEq, ZD] at hc) <;> (try (exact absurd hc (by decide))) <;> (try (exfalso; omega)))
    | ((first | refine WP.skip ?_ | refine WP.exit ?_); simp only [SeqQ, BlkQ, LoopQ, BodyQ, ↓reduceIte, Nat.reduceEqDiff, reduceCtorEq, look, true_and])
    | (refine WP.ret (Sm.out ?_))
    | (first | refine ExG.no (Sm.out ?_) | refine Or.inl (ExG.no (Sm.out ?_)) | refine Or.inl (And.intro (fun hg => absurd hg (by decide)) (ExG.no (Sm.out ?_))))
    | (refine Rt.mk ?_; refine And.intro ?_ ?_ <;> (intro hg; first | exact absurd hg (by decide) | refine Sm.out ?_))
    | (refine Nu.mk ?_; first | (fail_if_success (have := nb1)); intro nb1 | (fail_if_success (have := nb2)); intro nb2 | (fail_if_success (have := nb3)); intro nb3 | intro nbz)
    | (refine Fr.mk ?_; intro hfr; replace FR := And.intro hfr FR; clear hfr; refine Sm.out ?_)
    | (refine Two.mk ?_ ?_)
    | (refine Cs.mk ?_; intro hcs; first | exact False.elim hcs | (exfalso; omega) | (refine Sm.out ?_))
    | go_step
    | omega
    | (simp only [maxLen_eq]; omega)
    | (refine Or.inr (Rt.mk ?_); refine And.intro ?_ ?_ <;> (intro hg; first | exact absurd hg (by decide) | refine Sm.out ?_))
  (refine OutQ.upd (by simp only [resv, ZK, look, loadv, loadn, loadnm, load1, load1m, hget, ↓reduceIte, Nat.reduceEqDiff, Nat.reduceAdd, Nat.reduceMul, Nat.reduceLeDiff, Nat.reduceLT, reduceCtorEq, TFWiM, FR]) (by simp only [resv, resA, ZK, look, loadv, loadn, loadnm, load1, load1m, hget, ↓reduceIte, Nat.reduceEqDiff, Nat.reduceAdd, Nat.reduceMul, Nat.reduceLeDiff, Nat.reduceLT, reduceCtorEq, TFWiM, FR]; first | done | rfl) (by simp only [hget, ↓reduceIte, if_true, if_false, FR]; first | done | rfl) ?_ <;> first | exact rfl | (simp only [ZK, look, loadv, loadn, loadnm, load1, load1m, hget, ↓reduceIte, Nat.reduceEqDiff, Nat.reduceAdd, Nat.reduceMul, Nat.reduceLeDiff, Nat.reduceLT, reduceCtorEq, TFWiM, FR]; done) | skip)
theorem fail_e (b : Nat) (f : Bool) : ACt Try.prog 35 [pt b 0] [(b, .cells [nilS, bv f] 2 64)] (fun r F' => r = .tup [] ∧ F' = [(b, .cells [nilS, bv true] 2 64)]) := by
  refine ACt.intro Try.func35 rfl (by kernel_rfl) (by simp [Try.ntmps35]) (fun cx => ?_)
  simp only [argE, Try.ntmps35, Try.results35]
  first | (have FRx := FR; clear FRx) | (have FR : ¬ ((1 : Nat) = 0) := Nat.one_ne_zero)
  repeat' first
    | (refine Sm.mk ?_; try simp -dsimp only [ZK, rvc, drawF, headN, pureH, stp, dvc, calleeOf, gcall, pev, eff, newB, okd, og, ogs, ogo, ogp, slv, bltv, opd, litv, strip, one, both, putE, St.put, look, gdOf, gdv, picka, pickv, pickw, binv, bini, bins, binb, binp, bina, shp, eqCells, unv, convv, nilv, faddv, addp, idxav, idxp, load1, load1m, loadn, loadnm, loadv, hget, hset, hrep, hdel, slicev, bnd, shift1, lenv, IntKind.bits, extractv, fieldv, indexv, min2v, max2v, mkiv, cellsA, fillA, buildv, stC, oneC, rowMB, intsA, plN, appE, appZ, appC, appNZ, appNC, VwL, srcC, srcZ, srcM, isBoolT, isPtrT, isSliceT, uOk, Value.oneCell', Nat.reducePow, Int.reducePow, Nat.reduceAdd, Nat.reduceMul, Nat.reduceSub, Nat.reduceLT, Nat.reduceLeDiff, Nat.reduceEqDiff, Nat.reduceBEq, Nat.reduceDiv, Nat.reduceMod, ↓reduceIte, reduceCtorEq, Int.reduceToNat, Int.reduceLT, Int.reduceLE, TFWiM, SeqQ, BlkQ, LoopQ, BodyQ, FR])
    | (refine WP.seq fun K hK => ?_)
    | (refine WP.region (rvc_sound _ _ (Sm.out ?_)))
    | (refine WP.drawK rfl mixed (by decide +kernel) (Sm.out ?_))
    | (refine Ob.mk ?_; focus (first | assumption | omega | decide | trivial | (intro hob; simp only [hob, ZF]; done) | (intros; (repeat' refine And.intro ?_ ?_) <;> first | assumption | omega | trivial | decide) | (intros; simp only [ZE] at *; (repeat' refine And.intro ?_ ?_) <;> first | assumption | omega | trivial)))
    | (refine And.intro (Ob.out ?_) ?_)
    | (refine WP.block ?_)
    | (refine WP.cond rfl (fun hc => ?_) (fun hc => ?_) <;> (try simp only [ZC, reduceCtorEq, ZD] at hc) <;> (try (exact absurd hc (by decide))) <;> (try (exfalso; omega)))
    | ((first | refine WP.skip ?_ | refine WP.exit ?_); simp only [SeqQ, BlkQ, LoopQ, BodyQ, ↓reduceIte, Nat.reduceEqDiff, reduceCtorEq, look, true_and])
    | (refine WP.ret (Sm.out ?_))
    | (first | refine ExG.no (Sm.out ?_) | refine Or.inl (ExG.no (Sm.out ?_)) | refine Or.inl (And.intro (fun hg => absurd hg (by decide)) (ExG.no (Sm.out ?_))))
    | (refine Rt.mk ?_; refine And.intro ?_ ?_ <;> (intro hg; first | exact absurd hg (by decide) | refine Sm.out ?_))
    | (refine Nu.mk ?_; first | (fail_if_success (have := nb1)); intro nb1 | (fail_if_success (have := nb2)); intro nb2 | (fail_if_success (have := nb3)); intro nb3 | intro nbz)
    | (refine Fr.mk ?_; intro hfr; replace FR := And.intro hfr FR; clear hfr; refine Sm.out ?_)
    | (refine Two.mk ?_ ?_)
    | (refine Cs.mk ?_; intro hcs; first | exact False.elim hcs | (exfalso; omega) | (refine Sm.out ?_))
    | go_step
    | omega
    | (simp only [maxLen_eq]; omega)
    | (refine Or.inr (Rt.mk ?_); refine And.intro ?_ ?_ <;> (intro hg; first | exact absurd hg (by decide) | refine Sm.out ?_))
  (refine OutQ.upd (by simp only [resv, ZK, look, loadv, loadn, loadnm, load1, load1m, hget, ↓reduceIte, Nat.reduceEqDiff, Nat.reduceAdd, Nat.reduceMul, Nat.reduceLeDiff, Nat.reduceLT, reduceCtorEq, TFWiM, FR]) (by simp only [resv, resA, ZK, look, loadv, loadn, loadnm, load1, load1m, hget, ↓reduceIte, Nat.reduceEqDiff, Nat.reduceAdd, Nat.reduceMul, Nat.reduceLeDiff, Nat.reduceLT, reduceCtorEq, TFWiM, FR]; first | done | rfl) (by simp only [hget, ↓reduceIte, if_true, if_false, FR]; first | done | rfl) ?_ <;> first | exact rfl | (simp only [ZK, look, loadv, loadn, loadnm, load1, load1m, hget, ↓reduceIte, Nat.reduceEqDiff, Nat.reduceAdd, Nat.reduceMul, Nat.reduceLeDiff, Nat.reduceLT, reduceCtorEq, TFWiM, FR]; done) | skip)
end Go.Proofs.Ytljfldoekamccaa.Wi
