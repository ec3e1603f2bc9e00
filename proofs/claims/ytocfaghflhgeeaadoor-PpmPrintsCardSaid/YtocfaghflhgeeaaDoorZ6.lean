/-
  The walks and the laws that the statement leans on, part 6.
-/
import Derived.Test.YtocfaghflhgeeaaDoorZ5
namespace Go.Proofs.YtocfaghflhgeeaaDoor
open Go
set_option linter.unusedVariables false
set_option linter.unusedSimpArgs false
theorem TFStA : ((((type_of% tyc3) ∧ (type_of% zmb3)) ∧ ((type_of% tyc4) ∧ (type_of% zmb4))) ∧ (((type_of% tyc9) ∧ (type_of% zmb9)) ∧ ((type_of% Tryd.underlying3) ∧ ((type_of% Tryd.underlying4) ∧ (type_of% Tryd.underlying9))))) :=
  ⟨⟨⟨tyc3, zmb3⟩, ⟨tyc4, zmb4⟩⟩, ⟨⟨tyc9, zmb9⟩, ⟨Tryd.underlying3, ⟨Tryd.underlying4, Tryd.underlying9⟩⟩⟩⟩
abbrev stz (zs : List Int) : AV := .lit (.string (bstr zs))
theorem bstr_size (zs : List Int) : (bstr zs).size = zs.length := by simp [bstr, ByteArray.size]
def By (zs : List Int) : Prop := ∀ i, i < zs.length → 0 ≤ zs.getD i 0 ∧ zs.getD i 0 ≤ 255
theorem bstr_get {zs : List Int} (hb : By zs) {i : Nat} (h : i < zs.length) : (((bstr zs).get! i).toNat : Int) = zs.getD i 0 := by
  have hb := hb i h
  have e : (bstr zs).get! i = UInt8.ofNat (zs.getD i 0).toNat := by
    unfold bstr
    show (Array.mk _)[i]! = _
    rw [getElem!_pos _ _ (by simpa using h)]
    simp [List.getD_eq_getElem?_getD, List.getElem?_eq_getElem h]
  rw [e]
  have : (UInt8.ofNat (zs.getD i 0).toNat).toNat = (zs.getD i 0).toNat := by rw [UInt8.toNat_ofNat']; exact Nat.mod_eq_of_lt (by omega)
  rw [this]
  omega
theorem dec_lo {zs : List Int} (hb : By zs) {i : Nat} (h : i < zs.length) (hl : zs.getD i 0 < 128) : Utf8.decode (bstr zs) i = ((zs.getD i 0).toNat, 1) := by
  have hg := bstr_get hb h
  unfold Utf8.decode
  simp only [Nat.add_zero]
  rw [if_pos (by omega)]
  congr 1
  omega
theorem dec_hi {zs : List Int} (hb : By zs) {i : Nat} (h : i < zs.length) (hl : ¬ zs.getD i 0 < 128) : 128 ≤ (Utf8.decode (bstr zs) i).1 ∧ (Utf8.decode (bstr zs) i).1 < 2000000 := by
  have hg := bstr_get hb h
  unfold Utf8.decode
  simp only [Nat.add_zero]
  rw [if_neg (by omega)]
  have hv : ∀ c : Nat, Utf8.valid (c : Int) = true → c < 2000000 := fun c hc => by
    unfold Utf8.valid at hc
    simp only [Bool.and_eq_true, Bool.or_eq_true, decide_eq_true_eq] at hc
    omega
  have hr : 128 ≤ Utf8.runeError ∧ Utf8.runeError < 2000000 := by decide
  split
  · split
    · exact ⟨by omega, by omega⟩
    · exact hr
  · split
    · split
      · rename_i hc
        simp only [Bool.and_eq_true, decide_eq_true_eq] at hc
        exact ⟨by simp only; omega, hv _ hc.2⟩
      · exact hr
    · split
      · split
        · rename_i hc
          simp only [Bool.and_eq_true, decide_eq_true_eq] at hc
          exact ⟨by simp only; omega, hv _ hc.2⟩
        · exact hr
      · exact hr
theorem bstr_app (xs ys : List Int) : bstr xs ++ bstr ys = bstr (xs ++ ys) := by
  apply ByteArray.ext
  simp [bstr, ByteArray.data_append]
theorem bstr_at {zs : List Int} (hb : By zs) {i : Nat} (h : i < zs.length) : (((bstr zs).data.toList.getD i 0).toNat : Int) = zs.getD i 0 := by
  have hb := hb i h
  unfold bstr
  simp only [List.getD_eq_getElem?_getD, List.getElem?_map, List.getElem?_eq_getElem h, Option.map_some, Option.getD_some]
  rw [List.getD_eq_getElem?_getD, List.getElem?_eq_getElem h, Option.getD_some] at hb
  rw [UInt8.toNat_ofNat', Nat.mod_eq_of_lt (by omega)]
  omega
theorem bstr_ext (zs : List Int) (lo hi : Nat) : (bstr zs).extract lo hi = bstr ((zs.take hi).drop lo) := by
  apply ByteArray.ext
  rw [ByteArray.data_extract]
  apply Array.ext'
  simp [bstr, List.map_take, List.map_drop, List.drop_take]
theorem str_eq (xs ys : List Int) (hx : By xs) (hy : By ys) : ((bstr xs).toList == (bstr ys).toList) = decide (xs = ys) := by
  have h1 : ((bstr xs).toList == (bstr ys).toList) = (bstr xs == bstr ys) := by first | rw [beq_toListBytes] | rw [← beq_toListBytes]
  rw [h1]
  by_cases h : xs = ys
  · subst h; rw [decide_eq_true rfl]
    show ((bstr xs).data == (bstr xs).data) = true
    exact beq_self_eq_true _
  · rw [decide_eq_false h]
    have : ¬ (bstr xs == bstr ys) = true := fun hb => h (by
      have hb : (bstr xs).data == (bstr ys).data := hb
      have hb := eq_of_beq hb
      have hl : xs.length = ys.length := by have := congrArg Array.size hb; simpa [bstr] using this
      refine List.ext_getElem hl fun i h1 h2 => ?_
      have a := bstr_get hx h1
      have b := bstr_get hy h2
      have e : bstr xs = bstr ys := ByteArray.ext hb
      rw [e] at a
      rw [a] at b
      simpa [List.getD_eq_getElem?_getD, List.getElem?_eq_getElem h1, List.getElem?_eq_getElem h2] using b)
    simpa using this
theorem By.drop {zs : List Int} (h : By zs) (k : Nat) : By (zs.drop k) := fun i hi => by
  rw [List.length_drop] at hi
  have := h (k + i) (by omega)
  simpa [List.getD_eq_getElem?_getD, List.getElem?_drop] using this
def tab36 : ByteArray := ⟨List.toArray [48, 49, 50, 51, 52, 53, 54, 55, 56, 57, 97, 98, 99, 100, 101, 102, 103, 104, 105, 106, 107, 108, 109, 110, 111, 112, 113, 114, 115, 116, 117, 118, 119, 120, 121, 122]⟩
theorem tab36_eq : (⟨List.toArray [48, 49, 50, 51, 52, 53, 54, 55, 56, 57, 97, 98, 99, 100, 101, 102, 103, 104, 105, 106, 107, 108, 109, 110, 111, 112, 113, 114, 115, 116, 117, 118, 119, 120, 121, 122]⟩ : ByteArray) = tab36 := rfl
theorem tab36_size : tab36.size = 36 := by decide +kernel
def tab100 : ByteArray := ⟨List.toArray (List.append (List.append [48, 48, 48, 49, 48, 50, 48, 51, 48, 52, 48, 53, 48, 54, 48, 55, 48, 56, 48, 57, 49, 48, 49, 49, 49, 50, 49, 51, 49, 52, 49, 53, 49, 54, 49, 55, 49, 56, 49, 57, 50, 48, 50, 49, 50, 50, 50, 51, 50, 52] [50, 53, 50, 54, 50, 55, 50, 56, 50, 57, 51, 48, 51, 49, 51, 50, 51, 51, 51, 52, 51, 53, 51, 54, 51, 55, 51, 56, 51, 57, 52, 48, 52, 49, 52, 50, 52, 51, 52, 52, 52, 53, 52, 54, 52, 55, 52, 56, 52, 57]) (List.append [53, 48, 53, 49, 53, 50, 53, 51, 53, 52, 53, 53, 53, 54, 53, 55, 53, 56, 53, 57, 54, 48, 54, 49, 54, 50, 54, 51, 54, 52, 54, 53, 54, 54, 54, 55, 54, 56, 54, 57, 55, 48, 55, 49, 55, 50, 55, 51, 55, 52] [55, 53, 55, 54, 55, 55, 55, 56, 55, 57, 56, 48, 56, 49, 56, 50, 56, 51, 56, 52, 56, 53, 56, 54, 56, 55, 56, 56, 56, 57, 57, 48, 57, 49, 57, 50, 57, 51, 57, 52, 57, 53, 57, 54, 57, 55, 57, 56, 57, 57]))⟩
theorem tab100_eq : (⟨List.toArray (List.append (List.append [48, 48, 48, 49, 48, 50, 48, 51, 48, 52, 48, 53, 48, 54, 48, 55, 48, 56, 48, 57, 49, 48, 49, 49, 49, 50, 49, 51, 49, 52, 49, 53, 49, 54, 49, 55, 49, 56, 49, 57, 50, 48, 50, 49, 50, 50, 50, 51, 50, 52] [50, 53, 50, 54, 50, 55, 50, 56, 50, 57, 51, 48, 51, 49, 51, 50, 51, 51, 51, 52, 51, 53, 51, 54, 51, 55, 51, 56, 51, 57, 52, 48, 52, 49, 52, 50, 52, 51, 52, 52, 52, 53, 52, 54, 52, 55, 52, 56, 52, 57]) (List.append [53, 48, 53, 49, 53, 50, 53, 51, 53, 52, 53, 53, 53, 54, 53, 55, 53, 56, 53, 57, 54, 48, 54, 49, 54, 50, 54, 51, 54, 52, 54, 53, 54, 54, 54, 55, 54, 56, 54, 57, 55, 48, 55, 49, 55, 50, 55, 51, 55, 52] [55, 53, 55, 54, 55, 55, 55, 56, 55, 57, 56, 48, 56, 49, 56, 50, 56, 51, 56, 52, 56, 53, 56, 54, 56, 55, 56, 56, 56, 57, 57, 48, 57, 49, 57, 50, 57, 51, 57, 52, 57, 53, 57, 54, 57, 55, 57, 56, 57, 57]))⟩ : ByteArray) = tab100 := rfl
theorem tab100_size : tab100.size = 200 := by decide +kernel
/-- a number below 100 in digits -/
def dgs (n : Nat) : List Int := if n < 10 then [((48 + n : Nat) : Int)] else [((48 + n / 10 : Nat) : Int), ((48 + n % 10 : Nat) : Int)]
theorem tab36_ext : ∀ n, n < 10 → tab36.extract n (n + 1) = bstr (dgs n) := by decide +kernel
theorem tab100_ext : ∀ n, n < 100 → 10 ≤ n → tab100.extract (n * 2) (n * 2 + 2) = bstr (dgs n) := by decide +kernel
theorem tab100_at : ∀ n, n < 100 → (tab100.data.toList.getD (n * 2) 0).toNat = 48 + n / 10 ∧ (tab100.data.toList.getD (n * 2 + 1) 0).toNat = 48 + n % 10 := by decide +kernel
set_option maxRecDepth 20000 in
theorem small_ct (n : Nat) (hn : n < 100) : ACt Tryd.prog 56 [iv .i64 (n : Int)] [] (Fn (stz (dgs n))) := by
  refine ACt.intro Tryd.func56 rfl (by kernel_rfl) (by simp [Tryd.ntmps56]) (fun cx => ?_)
  simp only [argE, Tryd.ntmps56, Tryd.results56]
  have w1 : IntKind.i64.wrap ((n : Int) + 1) = ((n + 1 : Nat) : Int) := by rw [wrap_i64 (by omega) (by omega)]; omega
  have w2 : IntKind.i64.wrap ((n : Int) * 2) = ((n * 2 : Nat) : Int) := by rw [wrap_i64 (by omega) (by omega)]; omega
  have w3 : IntKind.i64.wrap (((n * 2 : Nat) : Int) + 2) = ((n * 2 + 2 : Nat) : Int) := by rw [wrap_i64 (by omega) (by omega)]; omega
  have t1 : ∀ k : Nat, ((k : Nat) : Int).toNat = k := fun k => by omega
  by_cases h : n < 10
  · have k1 : decide ((n : Int) < 10) = true := by simp; omega
    have e := tab36_ext n h
    first | (have FRx := FR; clear FRx) | (have FR : Sm (¬ ((1 : Nat) = 0)) := Sm.mk Nat.one_ne_zero)
    repeat' first
      | (refine Sm.mk ?_; try simp -dsimp only [ZK, rvc, drawF, headN, pureH, stp, dvc, calleeOf, gcall, pev, eff, newB, okd, og, ogs, ogo, ogp, slv, bltv, opd, litv, strip, one, both, putE, St.put, look, gdOf, gdv, picka, pickv, pickw, binv, bini, bins, binb, binp, binq, isSlT, bina, shp, eqCells, unv, convv, nilv, faddv, addp, idxav, idxp, load1, load1m, loadn, loadnm, loadv, hget, hset, hrep, hdel, slicev, bnd, shift1, lenv, capv, IntKind.bits, extractv, fieldv, indexv, min2v, max2v, mkiv, cellsA, fillA, buildv, stC, oneC, rowMB, intsA, plN, appE, appZ, appC, appNZ, appNC, VwL, srcC, srcZ, srcM, isBoolT, isPtrT, isSliceT, uOk, Value.oneCell', Nat.reducePow, Int.reducePow, Nat.reduceAdd, Nat.reduceMul, Nat.reduceSub, Nat.reduceLT, Nat.reduceLeDiff, Nat.reduceEqDiff, Nat.reduceBEq, Nat.reduceDiv, Nat.reduceMod, ↓reduceIte, reduceCtorEq, Int.reduceToNat, Int.reduceLT, Int.reduceLE, TFStA, SeqQ, BlkQ, LoopQ, BodyQ, k1, w1, t1, tab36_eq, tab36_size, e, FR.out])
      | (refine WP.seq fun K hK => ?_)
      | (refine WP.region (rvc_sound _ _ (Sm.out ?_)))
      | (refine WP.drawK rfl mixed (by decide +kernel) (Sm.out ?_))
      | (refine Ob.mk ?_; focus (first | assumption | omega | decide | trivial | (intro hob; simp only [hob, ZF]; done) | (intros; (repeat' refine And.intro ?_ ?_) <;> first | assumption | omega | trivial | decide) | (intros; simp only [ZE] at *; (repeat' refine And.intro ?_ ?_) <;> first | assumption | omega | trivial)))
      | (refine And.intro (Ob.out ?_) ?_)
      | (refine WP.block ?_)
      | (refine WP.cond rfl (fun hc => ?_) (fun hc => ?_) <;> (try simp only [ZC, reduceCtorEq, ZD] at hc) <;> (try (exact absurd hc (by decide))) <;> (try (exfalso; omega)))
      | ((first | refine WP.skip ?_ | refine WP.exit ?_); simp only [SeqQ, BlkQ, LoopQ, BodyQ, ↓reduceIte, Nat.reduceEqDiff, reduceCtorEq, look, true_and])
      | (refine WP.ret (Sm.out ?_))
      | (first | refine ExG.no (Sm.out ?_) | refine Or.inl (ExG.no (Sm.out ?_)) | refine Or.inl (And.intro (fun hg => absurd hg (by decide)) (ExG.no (Sm.out ?_))))
      | (refine Rt.mk ?_; refine And.intro ?_ ?_ <;> (intro hg; first | exact absurd hg (by decide) | refine Sm.out ?_))
      | (refine Nu.mk ?_; first | (fail_if_success (have := nb1)); intro nb1 | (fail_if_success (have := nb2)); intro nb2 | (fail_if_success (have := nb3)); intro nb3 | intro nbz)
      | (refine Fr.mk ?_; intro hfr; (first | (have hFRb : _ ≤ _ ∧ _ ≤ _ := And.intro hfr.1 hfr.2.1) | (have hFRb : _ ≤ _ := hfr.1) | skip); replace FR := Sm.mk (And.intro hfr FR.out); clear hfr; refine Sm.out ?_)
      | (refine Two.mk ?_ ?_)
      | (refine Cs.mk ?_; intro hcs; first | exact False.elim hcs | (exfalso; omega) | (refine Sm.out ?_))
      | go_step
      | omega
      | (simp only [maxLen_eq]; omega)
    (refine OutQ.all ?_ ?_; (focus (simp only [resv, ZK, look, loadv, loadn, loadnm, load1, load1m, hget, ↓reduceIte, Nat.reduceEqDiff, Nat.reduceAdd, Nat.reduceMul, Nat.reduceLeDiff, Nat.reduceLT, reduceCtorEq, TFStA, e, t1])); (try simp only [resv, resA, Fn, ZK, look, loadv, loadn, loadnm, load1, load1m, hget, ↓reduceIte, Nat.reduceEqDiff, Nat.reduceAdd, Nat.reduceMul, Nat.reduceLeDiff, Nat.reduceLT, reduceCtorEq, TFStA, e, t1]); (try simp [resA, Fn, look, e, t1]))
  · have k1 : decide ((n : Int) < 10) = false := by simp; omega
    have e := tab100_ext n hn (by omega)
    first | (have FRx := FR; clear FRx) | (have FR : Sm (¬ ((1 : Nat) = 0)) := Sm.mk Nat.one_ne_zero)
    repeat' first
      | (refine Sm.mk ?_; try simp -dsimp only [ZK, rvc, drawF, headN, pureH, stp, dvc, calleeOf, gcall, pev, eff, newB, okd, og, ogs, ogo, ogp, slv, bltv, opd, litv, strip, one, both, putE, St.put, look, gdOf, gdv, picka, pickv, pickw, binv, bini, bins, binb, binp, binq, isSlT, bina, shp, eqCells, unv, convv, nilv, faddv, addp, idxav, idxp, load1, load1m, loadn, loadnm, loadv, hget, hset, hrep, hdel, slicev, bnd, shift1, lenv, capv, IntKind.bits, extractv, fieldv, indexv, min2v, max2v, mkiv, cellsA, fillA, buildv, stC, oneC, rowMB, intsA, plN, appE, appZ, appC, appNZ, appNC, VwL, srcC, srcZ, srcM, isBoolT, isPtrT, isSliceT, uOk, Value.oneCell', Nat.reducePow, Int.reducePow, Nat.reduceAdd, Nat.reduceMul, Nat.reduceSub, Nat.reduceLT, Nat.reduceLeDiff, Nat.reduceEqDiff, Nat.reduceBEq, Nat.reduceDiv, Nat.reduceMod, ↓reduceIte, reduceCtorEq, Int.reduceToNat, Int.reduceLT, Int.reduceLE, TFStA, SeqQ, BlkQ, LoopQ, BodyQ, k1, w2, w3, t1, tab100_eq, tab100_size, e, FR.out])
      | (refine WP.seq fun K hK => ?_)
      | (refine WP.region (rvc_sound _ _ (Sm.out ?_)))
      | (refine WP.drawK rfl mixed (by decide +kernel) (Sm.out ?_))
      | (refine Ob.mk ?_; focus (first | assumption | omega | decide | trivial | (intro hob; simp only [hob, ZF]; done) | (intros; (repeat' refine And.intro ?_ ?_) <;> first | assumption | omega | trivial | decide) | (intros; simp only [ZE] at *; (repeat' refine And.intro ?_ ?_) <;> first | assumption | omega | trivial)))
      | (refine And.intro (Ob.out ?_) ?_)
      | (refine WP.block ?_)
      | (refine WP.cond rfl (fun hc => ?_) (fun hc => ?_) <;> (try simp only [ZC, reduceCtorEq, ZD] at hc) <;> (try (exact absurd hc (by decide))) <;> (try (exfalso; omega)))
      | ((first | refine WP.skip ?_ | refine WP.exit ?_); simp only [SeqQ, BlkQ, LoopQ, BodyQ, ↓reduceIte, Nat.reduceEqDiff, reduceCtorEq, look, true_and])
      | (refine WP.ret (Sm.out ?_))
      | (first | refine ExG.no (Sm.out ?_) | refine Or.inl (ExG.no (Sm.out ?_)) | refine Or.inl (And.intro (fun hg => absurd hg (by decide)) (ExG.no (Sm.out ?_))))
      | (refine Rt.mk ?_; refine And.intro ?_ ?_ <;> (intro hg; first | exact absurd hg (by decide) | refine Sm.out ?_))
      | (refine Nu.mk ?_; first | (fail_if_success (have := nb1)); intro nb1 | (fail_if_success (have := nb2)); intro nb2 | (fail_if_success (have := nb3)); intro nb3 | intro nbz)
      | (refine Fr.mk ?_; intro hfr; (first | (have hFRb : _ ≤ _ ∧ _ ≤ _ := And.intro hfr.1 hfr.2.1) | (have hFRb : _ ≤ _ := hfr.1) | skip); replace FR := Sm.mk (And.intro hfr FR.out); clear hfr; refine Sm.out ?_)
      | (refine Two.mk ?_ ?_)
      | (refine Cs.mk ?_; intro hcs; first | exact False.elim hcs | (exfalso; omega) | (refine Sm.out ?_))
      | go_step
      | omega
      | (simp only [maxLen_eq]; omega)
    (refine OutQ.all ?_ ?_; (focus (simp only [resv, ZK, look, loadv, loadn, loadnm, load1, load1m, hget, ↓reduceIte, Nat.reduceEqDiff, Nat.reduceAdd, Nat.reduceMul, Nat.reduceLeDiff, Nat.reduceLT, reduceCtorEq, TFStA, e, t1])); (try simp only [resv, resA, Fn, ZK, look, loadv, loadn, loadnm, load1, load1m, hget, ↓reduceIte, Nat.reduceEqDiff, Nat.reduceAdd, Nat.reduceMul, Nat.reduceLeDiff, Nat.reduceLT, reduceCtorEq, TFStA, e, t1]); (try simp [resA, Fn, look, e, t1]))
theorem bool2_ct (b : Bool) : ACt Tryd.prog 68 [bv b] [] (Fn (iv .i64 (if b then 1 else 0))) := by
  refine ACt.intro Tryd.func68 rfl (by kernel_rfl) (by simp [Tryd.ntmps68]) (fun cx => ?_)
  simp only [argE, Tryd.ntmps68, Tryd.results68]
  cases b
  · first | (have FRx := FR; clear FRx) | (have FR : Sm (¬ ((1 : Nat) = 0)) := Sm.mk Nat.one_ne_zero)
    repeat' first
      | (refine Sm.mk ?_; try simp -dsimp only [ZK, rvc, drawF, headN, pureH, stp, dvc, calleeOf, gcall, pev, eff, newB, okd, og, ogs, ogo, ogp, slv, bltv, opd, litv, strip, one, both, putE, St.put, look, gdOf, gdv, picka, pickv, pickw, binv, bini, bins, binb, binp, binq, isSlT, bina, shp, eqCells, unv, convv, nilv, faddv, addp, idxav, idxp, load1, load1m, loadn, loadnm, loadv, hget, hset, hrep, hdel, slicev, bnd, shift1, lenv, capv, IntKind.bits, extractv, fieldv, indexv, min2v, max2v, mkiv, cellsA, fillA, buildv, stC, oneC, rowMB, intsA, plN, appE, appZ, appC, appNZ, appNC, VwL, srcC, srcZ, srcM, isBoolT, isPtrT, isSliceT, uOk, Value.oneCell', Nat.reducePow, Int.reducePow, Nat.reduceAdd, Nat.reduceMul, Nat.reduceSub, Nat.reduceLT, Nat.reduceLeDiff, Nat.reduceEqDiff, Nat.reduceBEq, Nat.reduceDiv, Nat.reduceMod, ↓reduceIte, reduceCtorEq, Int.reduceToNat, Int.reduceLT, Int.reduceLE, TFStA, SeqQ, BlkQ, LoopQ, BodyQ, FR.out])
      | (refine WP.seq fun K hK => ?_)
      | (refine WP.region (rvc_sound _ _ (Sm.out ?_)))
      | (refine WP.drawK rfl mixed (by decide +kernel) (Sm.out ?_))
      | (refine Ob.mk ?_; focus (first | assumption | omega | decide | trivial | (intro hob; simp only [hob, ZF]; done) | (intros; (repeat' refine And.intro ?_ ?_) <;> first | assumption | omega | trivial | decide) | (intros; simp only [ZE] at *; (repeat' refine And.intro ?_ ?_) <;> first | assumption | omega | trivial)))
      | (refine And.intro (Ob.out ?_) ?_)
      | (refine WP.block ?_)
      | (refine WP.cond rfl (fun hc => ?_) (fun hc => ?_) <;> (try simp only [ZC, reduceCtorEq, ZD] at hc) <;> (try (exact absurd hc (by decide))) <;> (try (exfalso; omega)))
      | ((first | refine WP.skip ?_ | refine WP.exit ?_); simp only [SeqQ, BlkQ, LoopQ, BodyQ, ↓reduceIte, Nat.reduceEqDiff, reduceCtorEq, look, true_and])
      | (refine WP.ret (Sm.out ?_))
      | (first | refine ExG.no (Sm.out ?_) | refine Or.inl (ExG.no (Sm.out ?_)) | refine Or.inl (And.intro (fun hg => absurd hg (by decide)) (ExG.no (Sm.out ?_))))
      | (refine Rt.mk ?_; refine And.intro ?_ ?_ <;> (intro hg; first | exact absurd hg (by decide) | refine Sm.out ?_))
      | (refine Nu.mk ?_; first | (fail_if_success (have := nb1)); intro nb1 | (fail_if_success (have := nb2)); intro nb2 | (fail_if_success (have := nb3)); intro nb3 | intro nbz)
      | (refine Fr.mk ?_; intro hfr; (first | (have hFRb : _ ≤ _ ∧ _ ≤ _ := And.intro hfr.1 hfr.2.1) | (have hFRb : _ ≤ _ := hfr.1) | skip); replace FR := Sm.mk (And.intro hfr FR.out); clear hfr; refine Sm.out ?_)
      | (refine Two.mk ?_ ?_)
      | (refine Cs.mk ?_; intro hcs; first | exact False.elim hcs | (exfalso; omega) | (refine Sm.out ?_))
      | (refine OutQ.all ?_ ?_; (focus (simp only [resv, ZK, look, loadv, loadn, loadnm, load1, load1m, hget, ↓reduceIte, Nat.reduceEqDiff, Nat.reduceAdd, Nat.reduceMul, Nat.reduceLeDiff, Nat.reduceLT, reduceCtorEq, TFStA, FR.out])); (try simp only [resv, resA, Fn, ZK, look, loadv, loadn, loadnm, load1, load1m, hget, ↓reduceIte, Nat.reduceEqDiff, Nat.reduceAdd, Nat.reduceMul, Nat.reduceLeDiff, Nat.reduceLT, reduceCtorEq, TFStA, FR.out]); (try simp [resA, Fn, look, FR.out]); done)
      | go_step
      | omega
      | (simp only [maxLen_eq]; omega)
  · first | (have FRx := FR; clear FRx) | (have FR : Sm (¬ ((1 : Nat) = 0)) := Sm.mk Nat.one_ne_zero)
    repeat' first
      | (refine Sm.mk ?_; try simp -dsimp only [ZK, rvc, drawF, headN, pureH, stp, dvc, calleeOf, gcall, pev, eff, newB, okd, og, ogs, ogo, ogp, slv, bltv, opd, litv, strip, one, both, putE, St.put, look, gdOf, gdv, picka, pickv, pickw, binv, bini, bins, binb, binp, binq, isSlT, bina, shp, eqCells, unv, convv, nilv, faddv, addp, idxav, idxp, load1, load1m, loadn, loadnm, loadv, hget, hset, hrep, hdel, slicev, bnd, shift1, lenv, capv, IntKind.bits, extractv, fieldv, indexv, min2v, max2v, mkiv, cellsA, fillA, buildv, stC, oneC, rowMB, intsA, plN, appE, appZ, appC, appNZ, appNC, VwL, srcC, srcZ, srcM, isBoolT, isPtrT, isSliceT, uOk, Value.oneCell', Nat.reducePow, Int.reducePow, Nat.reduceAdd, Nat.reduceMul, Nat.reduceSub, Nat.reduceLT, Nat.reduceLeDiff, Nat.reduceEqDiff, Nat.reduceBEq, Nat.reduceDiv, Nat.reduceMod, ↓reduceIte, reduceCtorEq, Int.reduceToNat, Int.reduceLT, Int.reduceLE, TFStA, SeqQ, BlkQ, LoopQ, BodyQ, FR.out])
      | (refine WP.seq fun K hK => ?_)
      | (refine WP.region (rvc_sound _ _ (Sm.out ?_)))
      | (refine WP.drawK rfl mixed (by decide +kernel) (Sm.out ?_))
      | (refine Ob.mk ?_; focus (first | assumption | omega | decide | trivial | (intro hob; simp only [hob, ZF]; done) | (intros; (repeat' refine And.intro ?_ ?_) <;> first | assumption | omega | trivial | decide) | (intros; simp only [ZE] at *; (repeat' refine And.intro ?_ ?_) <;> first | assumption | omega | trivial)))
      | (refine And.intro (Ob.out ?_) ?_)
      | (refine WP.block ?_)
      | (refine WP.cond rfl (fun hc => ?_) (fun hc => ?_) <;> (try simp only [ZC, reduceCtorEq, ZD] at hc) <;> (try (exact absurd hc (by decide))) <;> (try (exfalso; omega)))
      | ((first | refine WP.skip ?_ | refine WP.exit ?_); simp only [SeqQ, BlkQ, LoopQ, BodyQ, ↓reduceIte, Nat.reduceEqDiff, reduceCtorEq, look, true_and])
      | (refine WP.ret (Sm.out ?_))
      | (first | refine ExG.no (Sm.out ?_) | refine Or.inl (ExG.no (Sm.out ?_)) | refine Or.inl (And.intro (fun hg => absurd hg (by decide)) (ExG.no (Sm.out ?_))))
      | (refine Rt.mk ?_; refine And.intro ?_ ?_ <;> (intro hg; first | exact absurd hg (by decide) | refine Sm.out ?_))
      | (refine Nu.mk ?_; first | (fail_if_success (have := nb1)); intro nb1 | (fail_if_success (have := nb2)); intro nb2 | (fail_if_success (have := nb3)); intro nb3 | intro nbz)
      | (refine Fr.mk ?_; intro hfr; (first | (have hFRb : _ ≤ _ ∧ _ ≤ _ := And.intro hfr.1 hfr.2.1) | (have hFRb : _ ≤ _ := hfr.1) | skip); replace FR := Sm.mk (And.intro hfr FR.out); clear hfr; refine Sm.out ?_)
      | (refine Two.mk ?_ ?_)
      | (refine Cs.mk ?_; intro hcs; first | exact False.elim hcs | (exfalso; omega) | (refine Sm.out ?_))
      | (refine OutQ.all ?_ ?_; (focus (simp only [resv, ZK, look, loadv, loadn, loadnm, load1, load1m, hget, ↓reduceIte, Nat.reduceEqDiff, Nat.reduceAdd, Nat.reduceMul, Nat.reduceLeDiff, Nat.reduceLT, reduceCtorEq, TFStA, FR.out])); (try simp only [resv, resA, Fn, ZK, look, loadv, loadn, loadnm, load1, load1m, hget, ↓reduceIte, Nat.reduceEqDiff, Nat.reduceAdd, Nat.reduceMul, Nat.reduceLeDiff, Nat.reduceLT, reduceCtorEq, TFStA, FR.out]); (try simp [resA, Fn, look, FR.out]); done)
      | go_step
      | omega
      | (simp only [maxLen_eq]; omega)
end Go.Proofs.YtocfaghflhgeeaaDoor
namespace Go.Proofs.YtocfaghflhgeeaaDoor
open Go
set_option linter.unusedVariables false
set_option linter.unusedSimpArgs false
section
variable {P : Program} {cx : Cx} {n : Nat}
def drawSG (P : Program) (n : Nat) (l : List Oper) (K : St → Prop) (is k b off : Nat) (s : St) : Prop :=
  match l.drop is with
  | ⟨none, .store T a y, _, _, _, none⟩ :: q => match hget s.H b with
      | some m0 => dvc P n l.toArray (l.take is) (fun s2 => (og s2.env a).1 ∧ (og s2.env a).2 = pt b off ∧ (og s2.env y).1 ∧ (stC P T m0 off (og s2.env y).2).1 ∧
          dvc P n l.toArray (q.take (k - is - 1)) (fun s3 => rvc P n l.toArray (q.drop (k - is - 1)) K ⟨s3.env, (b, (stC P T m0 off (og s2.env y).2).2) :: s3.H⟩) s2) ⟨s.env, hdel s.H b⟩
      | none => False
  | _ => False
theorem WP.drawS2 {id k is : Nat} (b off : Nat) {l : List Oper} {Q : Exit → St → Prop} {s : St} (hm : P.follows .mixedOrders = true) (hB : drawB l.toArray k = true) (hA : (decide (is < k) && decide (k ≤ l.length)) = true)
    (h : drawSG P n l (Q .normal) is k b off s) : WP P cx n (.region id l.toArray true) Q s := by
  intro a w ok0
  have hD := drawB_spec hB
  simp only [Bool.and_eq_true, decide_eq_true_eq] at hA
  obtain ⟨hisk, hkl⟩ := hA
  unfold drawSG at h
  split at h
  case h_2 => exact h.elim
  rename_i T ad y ty2 p2 af2 q hq
  split at h
  case h_2 => exact h.elim
  rename_i m0 hg
  have ok : Ok cx n ⟨s.env, (b, m0) :: hdel s.H b⟩ a w := Ok.permH (hget_perm hg) ok0
  have hfr : fresh (hdel s.H b) b := fun p hp => ⟨(hdel_mem ok0.world.nodup p hp).2, Ne.symm (hdel_mem ok0.world.nodup p hp).2⟩
  generalize hH0 : hdel s.H b = H0 at h ok hfr
  obtain ⟨xs2, x2, S2, K2⟩ := dvc_seqvE (cx := cx) _ _ h
  simp only at K2 S2
  obtain ⟨ha1, ha2, hy1, hy2, K2⟩ := K2
  obtain ⟨xs3, x3, S3, K3⟩ := dvc_seqvE (cx := cx) _ _ K2
  simp only at K3 S3
  obtain ⟨st, hst⟩ : ∃ st : Oper, st = ⟨none, .store T ad y, ty2, p2, af2, none⟩ := ⟨_, rfl⟩
  rw [← hst] at hq
  generalize hA2 : (l.take is).zip xs2 = A2 at S2 K2 K3 S3 hy1 hy2 ha1 ha2
  generalize hA3 : (q.take (k - is - 1)).zip xs3 = A3 at S3 K3
  have hlq : q.length = l.length - is - 1 := by have := congrArg List.length hq; simp at this; omega
  have l2 : A2.length = is := by rw [← hA2]; simp [x2]; omega
  have l3 : A3.length = k - is - 1 := by rw [← hA3]; simp [x3]; omega
  have f2 : A2.map (·.1) = l.take is := by rw [← hA2]; exact List.map_fst_zip (by omega)
  have f3 : A3.map (·.1) = q.take (k - is - 1) := by rw [← hA3]; exact List.map_fst_zip (by omega)
  obtain ⟨lx, hlxe⟩ : ∃ lx, lx = A2 ++ ([(st, AV.any)] ++ A3) := ⟨_, rfl⟩
  have hfst : lx.map (·.1) = l.take k := by
    have e1 : l.take k = l.take is ++ (l.drop is).take (k - is) := by rw [← List.take_add]; congr 1; omega
    have e4 : (st :: q).take (k - is) = st :: q.take (k - is - 1) := by rw [show k - is = (k - is - 1) + 1 by omega]; rfl
    rw [e1, hq, e4, hlxe]
    simp [f2, f3]
  have hlen : lx.length = k := by have := congrArg List.length hfst; simp at this; omega
  have hlx : ∀ (j : Nat) o x, lx[j]? = some (o, x) → l.toArray[j]? = some o := by
    intro j o x hj
    have h1 : (lx.map (·.1))[j]? = some o := by rw [List.getElem?_map, hj]; rfl
    rw [hfst, List.getElem?_take] at h1
    split at h1
    · simpa using h1
    · cases h1
  have hdrop : q.drop (k - is - 1) = l.drop k := by
    have e1 : l.drop k = (l.drop is).drop (k - is) := by rw [List.drop_drop]; congr 1; omega
    have e4 : (st :: q).drop (k - is) = q.drop (k - is - 1) := by rw [show k - is = (k - is - 1) + 1 by omega]; rfl
    rw [e1, hq, e4]
  have henvA : envL (fun _ => true) lx 0 s.env = envL (fun _ => true) A3 0 (envL (fun _ => true) A2 0 s.env) := by
    rw [hlxe, envL_append, envL_append, Nat.zero_add]
    simp only [envL, if_true, hst, putE]
    rw [show A2.length + [(({ dst := none, op := .store T ad y, type := ty2, pos := p2, after := af2, guard := none } : Oper), AV.any)].length = A2.length + 1 + 0 from rfl, envL_shiftk (A2.length + 1) A3 0]
  obtain ⟨pb, hpb⟩ : ∃ pb : QB, pb = ⟨is, b, off, m0, (stC P T m0 off (og (envL (fun _ => true) A2 0 s.env) y).2).2⟩ := ⟨_, rfl⟩
  have hSP : SeqS P cx n l.toArray H0 lx s.env pb := by
    unfold SeqS
    rw [hlxe]
    refine SeqG.app (fun i o x hi => ?_) (SeqG.app (SeqG.one ?_) fun i o x hi => ?_)
    · have hlt := (List.getElem?_eq_some_iff.1 hi).1
      try dsimp only
      rw [if_neg (by rw [hpb]; simp only; omega)]
      exact S2 i o x hi
    · try dsimp only
      rw [if_pos (by rw [hpb]; simp only; omega), hpb, hst]
      refine ⟨rfl, rfl, rfl, T, ad, y, rfl, ha1, ha2, hy1, hy2, ?_⟩
      first | rfl | trivial
    · have hlt := (List.getElem?_eq_some_iff.1 hi).1
      try dsimp only
      rw [if_neg (by rw [hpb]; simp; omega)]
      have := S3 i o x hi
      simp only [envL, if_true, hst, putE] at this ⊢
      exact this
  rw [← hlen] at hD
  refine wp_region_any hm ?_
  have ok' : Ok cx n ⟨s.env, (b, m0) :: H0⟩ a { w with drawn := w.drawn + 1 } := by
    have hIw : ∀ c, imm cx w ((b, m0) :: H0) c → imm cx { w with drawn := w.drawn + 1 } ((b, m0) :: H0) c ∧ ({ w with drawn := w.drawn + 1 } : World).heap[c]? = w.heap[c]? := fun c hc => ⟨hc, rfl⟩
    refine ⟨ok.defers, ok.size, fun i => (ok.reps i).mono hIw, ⟨ok.world.nodup, ok.world.keys, fun x hx => (ok.world.mem x hx).mono hIw rfl, ⟨ok.world.ext.os, ok.world.ext.tape, ok.world.ext.output, ok.world.ext.size, ok.world.ext.blk⟩⟩⟩
  have henv0 : envL (fun j => (Array.replicate l.toArray.size false).getD j false) lx 0 s.env = s.env := envL_none _ _ _ fun j _ => getD_rep_false _ _
  have inv0 : DInvS cx n l.toArray lx s.env H0 pb (Array.replicate l.toArray.size false) a { w with drawn := w.drawn + 1 } := by
    refine ⟨by simp, ⟨by simp, fun j oj _ hl => ?_, fun t _ ht => ?_, ?_⟩⟩
    · rw [getD_rep_false] at hl; cases hl
    · have : t < l.length := by simpa using ht
      simp [this]
    · rw [henv0, getD_rep_false, hpb]; exact ok'
  have his : pb.is = is := by rw [hpb]
  have hbb : pb.b = b := by rw [hpb]
  have hfin : ∀ listed a w, DInvS cx n l.toArray lx s.env H0 pb listed a w → (∀ j, j < lx.length → listed.getD j false = true) →
      wpAny P .any l.toArray (fun e a' w' => ∃ s', Q e s' ∧ Ok cx n s' a' w') (l.drop k).length listed a w := by
    intro listed a w inv hall
    have hinv := inv.inv
    rw [his, hall is (by omega), if_pos rfl] at hinv
    have henv : ∀ t, look (envL (fun j => listed.getD j false) lx 0 s.env) t = look (envL (fun _ => true) A3 0 (envL (fun _ => true) A2 0 s.env)) t := by
      intro t
      have e1 : envL (fun j => listed.getD j false) lx 0 s.env = envL (fun _ => true) lx 0 s.env := envL_ext lx 0 _ fun j _ hj => hall j (by omega)
      rw [e1, henvA]
    have hok : Ok cx n ⟨envL (fun _ => true) A3 0 (envL (fun _ => true) A2 0 s.env), (b, pb.m1) :: H0⟩ a w := by
      refine ⟨hinv.ok.defers, hinv.ok.size, fun t => ?_, ?_⟩
      · have := hinv.ok.reps t
        simp only [henv t, hbb] at this
        exact this
      · have := hinv.ok.world
        simp only [hbb] at this
        exact this
    have hK := K3
    rw [hdrop] at hK
    have hm1 : pb.m1 = (stC P T m0 off (og (envL (fun _ => true) A2 0 s.env) y).2).2 := by rw [hpb]
    rw [hm1] at hok
    have hwl := rvc_sound (cx := cx) _ _ hK (fun e a' w' => ∃ s', Q e s' ∧ Ok cx n s' a' w') (fun s' a' w' hk ok' => ⟨s', hk, ok'⟩) a w hok
    refine tail_any (k0 := k) (by rw [hlen] at hD; exact hD) (l.drop k) k listed a w (Nat.le_refl _) (fun j => by simp [List.getElem?_drop]) (by simp; omega) inv.lsize (fun j hj => ?_) hwl
    by_cases hjk : j < k
    · rw [hall j (by omega)]; simp [hjk]
    · have := hinv.tail j (by omega) hj
      rw [getD_bool (by rw [inv.lsize]; exact hj)] at this
      rw [this]; simp; omega
  have hcount : ((List.range lx.length).filter fun i => !(Array.replicate l.toArray.size false).getD i false).length = k := by
    rw [hlen]
    have : ((List.range k).filter fun i => !(Array.replicate l.toArray.size false).getD i false) = List.range k := by
      rw [List.filter_eq_self]
      intro j _
      rw [getD_rep_false]
      rfl
    rw [this]; simp
  have := head_any' hD (fun _ _ _ inv => inv.inv.closed) (fun _ _ _ inv => inv.lsize) (fun listed a w i X inv hi hik hX => dinvS_step hD hlx hSP (by rw [hbb]; exact hfr) inv hi hik hX) hfin k _ a _ hcount inv0
  have hN : k + (l.drop k).length = l.toArray.size := by simp; omega
  rw [hN] at this
  exact this
end
end Go.Proofs.YtocfaghflhgeeaaDoor
namespace Go.Proofs.YtocfaghflhgeeaaDoor
open Go
set_option linter.unusedVariables false
set_option linter.unusedSimpArgs false
theorem TFStB : ((((((type_of% tyc0) ∧ (type_of% tyc2)) ∧ ((type_of% zmb2) ∧ ((type_of% tyc3) ∧ (type_of% zmb3)))) ∧ (((type_of% tyc4) ∧ ((type_of% zmb4) ∧ (type_of% tyc5))) ∧ ((type_of% zmb5) ∧ ((type_of% tyc9) ∧ (type_of% zmb9))))) ∧ ((((type_of% tyc22) ∧ ((type_of% zmb22) ∧ (type_of% tyc23))) ∧ ((type_of% zmb23) ∧ ((type_of% tyc52) ∧ (type_of% zmb52)))) ∧ (((type_of% tyc65) ∧ ((type_of% elt65) ∧ (type_of% mkz65))) ∧ ((type_of% apT65) ∧ ((type_of% elk65) ∧ (type_of% zmb65)))))) ∧ (((((type_of% tyc86) ∧ ((type_of% elt86) ∧ (type_of% zmb86))) ∧ ((type_of% bldT86) ∧ ((type_of% tyc88) ∧ (type_of% tyc94)))) ∧ (((type_of% elt94) ∧ ((type_of% zmb94) ∧ (type_of% bldT94))) ∧ ((type_of% arr186) ∧ ((type_of% arr194) ∧ (type_of% Tryd.underlying0))))) ∧ ((((type_of% Tryd.underlying2) ∧ ((type_of% Tryd.underlying3) ∧ (type_of% Tryd.underlying4))) ∧ ((type_of% Tryd.underlying5) ∧ ((type_of% Tryd.underlying9) ∧ (type_of% Tryd.underlying22)))) ∧ (((type_of% Tryd.underlying23) ∧ ((type_of% Tryd.underlying52) ∧ (type_of% Tryd.underlying65))) ∧ ((type_of% Tryd.underlying86) ∧ ((type_of% Tryd.underlying88) ∧ (type_of% Tryd.underlying94))))))) :=
  ⟨⟨⟨⟨⟨tyc0, tyc2⟩, ⟨zmb2, ⟨tyc3, zmb3⟩⟩⟩, ⟨⟨tyc4, ⟨zmb4, tyc5⟩⟩, ⟨zmb5, ⟨tyc9, zmb9⟩⟩⟩⟩, ⟨⟨⟨tyc22, ⟨zmb22, tyc23⟩⟩, ⟨zmb23, ⟨tyc52, zmb52⟩⟩⟩, ⟨⟨tyc65, ⟨elt65, mkz65⟩⟩, ⟨apT65, ⟨elk65, zmb65⟩⟩⟩⟩⟩, ⟨⟨⟨⟨tyc86, ⟨elt86, zmb86⟩⟩, ⟨bldT86, ⟨tyc88, tyc94⟩⟩⟩, ⟨⟨elt94, ⟨zmb94, bldT94⟩⟩, ⟨arr186, ⟨arr194, Tryd.underlying0⟩⟩⟩⟩, ⟨⟨⟨Tryd.underlying2, ⟨Tryd.underlying3, Tryd.underlying4⟩⟩, ⟨Tryd.underlying5, ⟨Tryd.underlying9, Tryd.underlying22⟩⟩⟩, ⟨⟨Tryd.underlying23, ⟨Tryd.underlying52, Tryd.underlying65⟩⟩, ⟨Tryd.underlying86, ⟨Tryd.underlying88, Tryd.underlying94⟩⟩⟩⟩⟩⟩
abbrev p10 : List Int := [1, 10, 100, 1000, 10000, 100000, 1000000, 10000000, 100000000, 1000000000, 10000000000, 100000000000, 1000000000000, 10000000000000, 100000000000000, 1000000000000000, 10000000000000000, 100000000000000000, 1000000000000000000, 10000000000000000000]
abbrev GG (n0 : Nat) : Hp := [(3, .zs .u64 p10 20 n0)]
theorem log_ct (x : Int) (h : x = 14 ∨ x = 15) : ACt Tryd.prog 67 [iv .i64 x] [] (Fn (iv .i64 4)) := by
  refine ACt.intro Tryd.func67 rfl (by kernel_rfl) (by simp [Tryd.ntmps67]) (fun cx => ?_)
  simp only [argE, Tryd.ntmps67, Tryd.results67]
  have e : IntKind.i64.wrap (x * 78913) = x * 78913 := wrap_i64 (by omega) (by omega)
  have e2 : (x * 78913).fdiv 262144 = 4 := by
    rw [Int.fdiv_eq_ediv_of_nonneg _ (by omega)]
    omega
  have e3 : IntKind.i64.wrap 4 = 4 := by decide
  first | (have FRx := FR; clear FRx) | (have FR : Sm (¬ ((1 : Nat) = 0)) := Sm.mk Nat.one_ne_zero)
  repeat' first
    | (refine Sm.mk ?_; try simp -dsimp only [ZK, rvc, drawF, headN, pureH, stp, dvc, calleeOf, gcall, pev, eff, newB, okd, og, ogs, ogo, ogp, slv, bltv, opd, litv, strip, one, both, putE, St.put, look, gdOf, gdv, picka, pickv, pickw, binv, bini, bins, binb, binp, binq, isSlT, bina, shp, eqCells, unv, convv, nilv, faddv, addp, idxav, idxp, load1, load1m, loadn, loadnm, loadv, hget, hset, hrep, hdel, slicev, bnd, shift1, lenv, capv, IntKind.bits, extractv, fieldv, indexv, min2v, max2v, mkiv, cellsA, fillA, buildv, stC, oneC, rowMB, intsA, plN, appE, appZ, appC, appNZ, appNC, VwL, srcC, srcZ, srcM, isBoolT, isPtrT, isSliceT, uOk, Value.oneCell', Nat.reducePow, Int.reducePow, Nat.reduceAdd, Nat.reduceMul, Nat.reduceSub, Nat.reduceLT, Nat.reduceLeDiff, Nat.reduceEqDiff, Nat.reduceBEq, Nat.reduceDiv, Nat.reduceMod, ↓reduceIte, reduceCtorEq, Int.reduceToNat, Int.reduceLT, Int.reduceLE, TFStB, SeqQ, BlkQ, LoopQ, BodyQ, e, e2, e3, FR.out])
    | (refine WP.seq fun K hK => ?_)
    | (refine WP.region (rvc_sound _ _ (Sm.out ?_)))
    | (refine WP.drawK rfl mixed (by decide +kernel) (Sm.out ?_))
    | (refine Ob.mk ?_; focus (first | assumption | omega | decide | trivial | (intro hob; simp only [hob, ZF]; done) | (intros; (repeat' refine And.intro ?_ ?_) <;> first | assumption | omega | trivial | decide) | (intros; simp only [ZE] at *; (repeat' refine And.intro ?_ ?_) <;> first | assumption | omega | trivial)))
    | (refine And.intro (Ob.out ?_) ?_)
    | (refine WP.block ?_)
    | (refine WP.cond rfl (fun hc => ?_) (fun hc => ?_) <;> (try simp only [ZC, reduceCtorEq, ZD] at hc) <;> (try (exact absurd hc (by decide))) <;> (try (exfalso; omega)))
    | ((first | refine WP.skip ?_ | refine WP.exit ?_); simp only [SeqQ, BlkQ, LoopQ, BodyQ, ↓reduceIte, Nat.reduceEqDiff, reduceCtorEq, look, true_and])
    | (refine WP.ret (Sm.out ?_))
    | (first | refine ExG.no (Sm.out ?_) | refine Or.inl (ExG.no (Sm.out ?_)) | refine Or.inl (And.intro (fun hg => absurd hg (by decide)) (ExG.no (Sm.out ?_))))
    | (refine Rt.mk ?_; refine And.intro ?_ ?_ <;> (intro hg; first | exact absurd hg (by decide) | refine Sm.out ?_))
    | (refine Nu.mk ?_; first | (fail_if_success (have := nb1)); intro nb1 | (fail_if_success (have := nb2)); intro nb2 | (fail_if_success (have := nb3)); intro nb3 | (fail_if_success (have := nb4)); intro nb4 | intro nbz)
    | (refine Fr.mk ?_; intro hfr; (first | (have hFRb : _ ≤ _ ∧ _ ≤ _ := And.intro hfr.1 hfr.2.1) | (have hFRb : _ ≤ _ := hfr.1) | skip); replace FR := Sm.mk (And.intro hfr FR.out); clear hfr; refine Sm.out ?_)
    | (refine Two.mk ?_ ?_)
    | (refine Cs.mk ?_; intro hcs; first | exact False.elim hcs | (exfalso; omega) | (refine Sm.out ?_))
    | (refine OutQ.all ?_ ?_; (focus (simp only [resv, ZK, look, loadv, loadn, loadnm, load1, load1m, hget, ↓reduceIte, Nat.reduceEqDiff, Nat.reduceAdd, Nat.reduceMul, Nat.reduceLeDiff, Nat.reduceLT, reduceCtorEq, TFStB, e, e2, e3, FR.out])); (try simp only [resv, resA, Fn, ZK, look, loadv, loadn, loadnm, load1, load1m, hget, ↓reduceIte, Nat.reduceEqDiff, Nat.reduceAdd, Nat.reduceMul, Nat.reduceLeDiff, Nat.reduceLT, reduceCtorEq, TFStB, e, e2, e3, FR.out]); (try simp [resA, Fn, look, e, e2, e3, FR.out]); done)
    | go_step
    | omega
    | (simp only [maxLen_eq]; omega)
theorem numd_ct (n0 : Nat) (x : Nat) (hx : 10000 ≤ x ∧ x ≤ 19999) : ACt Tryd.prog 57 [iv .u64 (x : Int)] (GG n0) (fun r F' => r = iv .i64 5 ∧ F' = GG n0) := by
  have cL := len64_ct x (by omega)
  have p15 : (2 : Nat) ^ 15 = 32768 := by decide
  have p13 : (2 : Nat) ^ 13 = 8192 := by decide
  have h1 : lenN x ≤ 15 := lenN_le.2 (by omega)
  have h2 : ¬ lenN x ≤ 13 := fun h => by
    have := lenN_le.1 h
    omega
  obtain ⟨L, hL⟩ : ∃ L : Int, L = ((lenN x : Nat) : Int) := ⟨_, rfl⟩
  rw [← hL] at cL
  have cG := log_ct L (by omega)
  refine ACt.intro Tryd.func57 rfl (by kernel_rfl) (by simp [Tryd.ntmps57]) (fun cx => ?_)
  simp only [argE, Tryd.ntmps57, Tryd.results57, GG, p10]
  have k1 : decide ((x : Int) ≥ 10000) = true := by simp; omega
  have cB : ACt Tryd.prog 68 [bv true] [] (Fn (iv .i64 1)) := bool2_ct true
  have w : IntKind.i64.wrap (4 + 1) = 5 := by decide
  first | (have FRx := FR; clear FRx) | (have FR : Sm (¬ ((1 : Nat) = 0)) := Sm.mk Nat.one_ne_zero)
  repeat' first
    | (refine Sm.mk ?_; try simp -dsimp only [ZK, rvc, drawF, headN, pureH, stp, dvc, calleeOf, gcall, pev, eff, newB, okd, og, ogs, ogo, ogp, slv, bltv, opd, litv, strip, one, both, putE, St.put, look, gdOf, gdv, picka, pickv, pickw, binv, bini, bins, binb, binp, binq, isSlT, bina, shp, eqCells, unv, convv, nilv, faddv, addp, idxav, idxp, load1, load1m, loadn, loadnm, loadv, hget, hset, hrep, hdel, slicev, bnd, shift1, lenv, capv, IntKind.bits, extractv, fieldv, indexv, min2v, max2v, mkiv, cellsA, fillA, buildv, stC, oneC, rowMB, intsA, plN, appE, appZ, appC, appNZ, appNC, VwL, srcC, srcZ, srcM, isBoolT, isPtrT, isSliceT, uOk, Value.oneCell', Nat.reducePow, Int.reducePow, Nat.reduceAdd, Nat.reduceMul, Nat.reduceSub, Nat.reduceLT, Nat.reduceLeDiff, Nat.reduceEqDiff, Nat.reduceBEq, Nat.reduceDiv, Nat.reduceMod, ↓reduceIte, reduceCtorEq, Int.reduceToNat, Int.reduceLT, Int.reduceLE, TFStB, SeqQ, BlkQ, LoopQ, BodyQ, k1, w, FR.out])
    | (first | refine CallV.fn (cL) (Sm.out ?_) | refine ExF.mk (cL) (Sm.out ?_) | refine ExG.mk (fun _ => cL) (Sm.out ?_) | refine ExG.mkJ (fun _ => cL) (Sm.out ?_) | refine ExG.mkI (Ob.out ?_) (fun _ => cL) (Sm.out ?_))
    | (first | refine CallV.fn (cG) (Sm.out ?_) | refine ExF.mk (cG) (Sm.out ?_) | refine ExG.mk (fun _ => cG) (Sm.out ?_) | refine ExG.mkJ (fun _ => cG) (Sm.out ?_) | refine ExG.mkI (Ob.out ?_) (fun _ => cG) (Sm.out ?_))
    | (first | refine CallV.fn (cB) (Sm.out ?_) | refine ExF.mk (cB) (Sm.out ?_) | refine ExG.mk (fun _ => cB) (Sm.out ?_) | refine ExG.mkJ (fun _ => cB) (Sm.out ?_) | refine ExG.mkI (Ob.out ?_) (fun _ => cB) (Sm.out ?_))
    | (refine WP.seq fun K hK => ?_)
    | (refine WP.region (rvc_sound _ _ (Sm.out ?_)))
    | (refine WP.drawK rfl mixed (by decide +kernel) (Sm.out ?_))
    | (refine Ob.mk ?_; focus (first | assumption | omega | decide | trivial | (intro hob; simp only [hob, ZF]; done) | (intros; (repeat' refine And.intro ?_ ?_) <;> first | assumption | omega | trivial | decide) | (intros; simp only [ZE] at *; (repeat' refine And.intro ?_ ?_) <;> first | assumption | omega | trivial)))
    | (refine And.intro (Ob.out ?_) ?_)
    | (refine WP.block ?_)
    | (refine WP.cond rfl (fun hc => ?_) (fun hc => ?_) <;> (try simp only [ZC, reduceCtorEq, ZD] at hc) <;> (try (exact absurd hc (by decide))) <;> (try (exfalso; omega)))
    | ((first | refine WP.skip ?_ | refine WP.exit ?_); simp only [SeqQ, BlkQ, LoopQ, BodyQ, ↓reduceIte, Nat.reduceEqDiff, reduceCtorEq, look, true_and])
    | (refine WP.ret (Sm.out ?_))
    | (first | refine ExG.no (Sm.out ?_) | refine Or.inl (ExG.no (Sm.out ?_)) | refine Or.inl (And.intro (fun hg => absurd hg (by decide)) (ExG.no (Sm.out ?_))))
    | (refine Rt.mk ?_; refine And.intro ?_ ?_ <;> (intro hg; first | exact absurd hg (by decide) | refine Sm.out ?_))
    | (refine Nu.mk ?_; first | (fail_if_success (have := nb1)); intro nb1 | (fail_if_success (have := nb2)); intro nb2 | (fail_if_success (have := nb3)); intro nb3 | (fail_if_success (have := nb4)); intro nb4 | intro nbz)
    | (refine Fr.mk ?_; intro hfr; (first | (have hFRb : _ ≤ _ ∧ _ ≤ _ := And.intro hfr.1 hfr.2.1) | (have hFRb : _ ≤ _ := hfr.1) | skip); replace FR := Sm.mk (And.intro hfr FR.out); clear hfr; refine Sm.out ?_)
    | (refine Two.mk ?_ ?_)
    | (refine Cs.mk ?_; intro hcs; first | exact False.elim hcs | (exfalso; omega) | (refine Sm.out ?_))
    | go_step
    | omega
    | (simp only [maxLen_eq]; omega)
  (refine OutQ.upd (by simp only [resv, ZK, look, loadv, loadn, loadnm, load1, load1m, hget, ↓reduceIte, Nat.reduceEqDiff, Nat.reduceAdd, Nat.reduceMul, Nat.reduceLeDiff, Nat.reduceLT, reduceCtorEq, TFStB, FR.out]) (by simp only [resv, resA, ZK, look, loadv, loadn, loadnm, load1, load1m, hget, ↓reduceIte, Nat.reduceEqDiff, Nat.reduceAdd, Nat.reduceMul, Nat.reduceLeDiff, Nat.reduceLT, reduceCtorEq, TFStB, FR.out]; first | done | rfl) (by simp only [hget, ↓reduceIte, if_true, if_false, FR.out]; first | done | rfl) ?_ <;> first | exact rfl | (simp only [ZK, look, loadv, loadn, loadnm, load1, load1m, hget, ↓reduceIte, Nat.reduceEqDiff, Nat.reduceAdd, Nat.reduceMul, Nat.reduceLeDiff, Nat.reduceLT, reduceCtorEq, TFStB, FR.out]; done) | skip)
abbrev Z0 : List Int := [0, 0, 0, 0, 0, 0, 0, 0, 0, 0, 0, 0, 0, 0, 0, 0, 0, 0, 0, 0, 0, 0, 0, 0]
def dg4 (n : Nat) : List Int := [((48 + n / 1000 : Nat) : Int), ((48 + n / 100 % 10 : Nat) : Int), ((48 + n / 10 % 10 : Nat) : Int), ((48 + n % 10 : Nat) : Int)]
/-- five digits, the first one a 1 -/
def dg5 (n : Nat) : List Int := 49 :: dg4 n
def put5 (L : List Int) (n : Nat) : List Int := ((((L.set 5 ((48 + n % 10 : Nat) : Int)).set 4 ((48 + n / 10 % 10 : Nat) : Int)).set 3 ((48 + n / 100 % 10 : Nat) : Int)).set 2 ((48 + n / 1000 : Nat) : Int)).set 1 49
theorem put5_len (L : List Int) (n : Nat) : (put5 L n).length = L.length := by simp [put5]
theorem put5_cut (L : List Int) (n : Nat) (h : L.length = 24) : ((put5 L n).drop 1).take 5 = dg5 n := by
  match L, h with
  | a :: b :: c :: d :: e :: f :: r, h => simp [put5, dg5, dg4]
set_option maxRecDepth 20000 in
set_option maxHeartbeats 2000000 in
theorem base10_ct (b ty : Nat) (L : List Int) (hL : L.length = 24) (y : Nat) (hy : y ≤ 9999) :
    ACt Tryd.prog 58 [ms b 1 5 23, iv .u64 ((10000 + y : Nat) : Int)] [(b, .zs .u8 L 24 ty)] (fun r F' => r = .tup [] ∧ F' = [(b, .zs .u8 (put5 L y) 24 ty)]) := by
  obtain ⟨u, hu⟩ : ∃ u, u = y / 100 := ⟨_, rfl⟩
  obtain ⟨v, hv⟩ : ∃ v, v = y % 100 := ⟨_, rfl⟩
  obtain ⟨a1, a2⟩ := tab100_at u (by omega)
  obtain ⟨a3, a4⟩ := tab100_at v (by omega)
  have hp : put5 L y = ((((L.set 5 ((48 + v % 10 : Nat) : Int)).set 4 ((48 + v / 10 : Nat) : Int)).set 3 ((48 + u % 10 : Nat) : Int)).set 2 ((48 + u / 10 : Nat) : Int)).set 1 49 := by
    unfold put5
    rw [show y % 10 = v % 10 by omega, show y / 10 % 10 = v / 10 by omega, show y / 100 % 10 = u % 10 by omega, show y / 1000 = u / 10 by omega]
  rw [hp]
  obtain ⟨x, hx⟩ : ∃ x, x = 10000 + y := ⟨_, rfl⟩
  rw [← hx]
  refine ACt.intro Tryd.func58 rfl (by kernel_rfl) (by simp [Tryd.ntmps58]) (fun cx => ?_)
  simp only [argE, Tryd.ntmps58, Tryd.results58]
  have w1 : IntKind.u32.wrap (x : Int) = (x : Int) := wrap_u32 (by omega) (by omega)
  have r1 : (x : Int).tmod 10000 = (y : Int) := by rw [Int.tmod_eq_emod_of_nonneg (by omega)]; omega
  have w2 : IntKind.u32.wrap (y : Int) = (y : Int) := wrap_u32 (by omega) (by omega)
  have r2 : (x : Int).tdiv 10000 = 1 := by rw [Int.tdiv_eq_ediv_of_nonneg (by omega)]; omega
  have r3 : (y : Int).tdiv 100 = (u : Int) := by rw [Int.tdiv_eq_ediv_of_nonneg (by omega)]; omega
  have r4 : (y : Int).tmod 100 = (v : Int) := by rw [Int.tmod_eq_emod_of_nonneg (by omega)]; omega
  have w3 : IntKind.u32.wrap (u : Int) = (u : Int) := wrap_u32 (by omega) (by omega)
  have w4 : IntKind.u32.wrap (v : Int) = (v : Int) := wrap_u32 (by omega) (by omega)
  have w5 : IntKind.u32.wrap ((u : Int) * 2) = ((u * 2 : Nat) : Int) := by rw [wrap_u32 (by omega) (by omega)]; omega
  have w6 : IntKind.u32.wrap ((v : Int) * 2) = ((v * 2 : Nat) : Int) := by rw [wrap_u32 (by omega) (by omega)]; omega
  have w7 : IntKind.u32.wrap (((u * 2 : Nat) : Int) + 1) = ((u * 2 + 1 : Nat) : Int) := by rw [wrap_u32 (by omega) (by omega)]; omega
  have w8 : IntKind.u32.wrap (((v * 2 : Nat) : Int) + 1) = ((v * 2 + 1 : Nat) : Int) := by rw [wrap_u32 (by omega) (by omega)]; omega
  have w9 : IntKind.u32.wrap 1 = 1 := by decide
  have w10 : IntKind.u32.wrap (48 + 1) = 49 := by decide
  have w11 : IntKind.u8.wrap 49 = 49 := by decide
  have t1 : ∀ k : Nat, ((k : Nat) : Int).toNat = k := fun k => by omega
  have f1 : IntKind.i64.wrap (5 - 1) = 4 := by decide
  have f2 : IntKind.i64.wrap (5 - 2) = 3 := by decide
  have f3 : IntKind.i64.wrap (5 - 3) = 2 := by decide
  have f4 : IntKind.i64.wrap (5 - 4) = 1 := by decide
  have i1 : u < 100 := by omega
  have i2 : v < 100 := by omega
  first | (have FRx := FR; clear FRx) | (have FR : Sm (¬ ((1 : Nat) = 0)) := Sm.mk Nat.one_ne_zero)
  repeat' first
    | (refine Sm.mk ?_; try simp -dsimp only [ZK, rvc, drawF, headN, pureH, stp, dvc, calleeOf, gcall, pev, eff, newB, okd, og, ogs, ogo, ogp, slv, bltv, opd, litv, strip, one, both, putE, St.put, look, gdOf, gdv, picka, pickv, pickw, binv, bini, bins, binb, binp, binq, isSlT, bina, shp, eqCells, unv, convv, nilv, faddv, addp, idxav, idxp, load1, load1m, loadn, loadnm, loadv, hget, hset, hrep, hdel, slicev, bnd, shift1, lenv, capv, IntKind.bits, extractv, fieldv, indexv, min2v, max2v, mkiv, cellsA, fillA, buildv, stC, oneC, rowMB, intsA, plN, appE, appZ, appC, appNZ, appNC, VwL, srcC, srcZ, srcM, isBoolT, isPtrT, isSliceT, uOk, Value.oneCell', Nat.reducePow, Int.reducePow, Nat.reduceAdd, Nat.reduceMul, Nat.reduceSub, Nat.reduceLT, Nat.reduceLeDiff, Nat.reduceEqDiff, Nat.reduceBEq, Nat.reduceDiv, Nat.reduceMod, ↓reduceIte, reduceCtorEq, Int.reduceToNat, Int.reduceLT, Int.reduceLE, TFStB, SeqQ, BlkQ, LoopQ, BodyQ, FR.out])
    | (refine WP.seq fun K hK => ?_)
    | (refine WP.region (rvc_sound _ _ (Sm.out ?_)))
    | (refine WP.drawK rfl mixed (by decide +kernel) (Sm.out ?_))
    | (refine Ob.mk ?_; focus (first | assumption | omega | decide | trivial | (intro hob; simp only [hob, ZF]; done) | (intros; (repeat' refine And.intro ?_ ?_) <;> first | assumption | omega | trivial | decide) | (intros; simp only [ZE] at *; (repeat' refine And.intro ?_ ?_) <;> first | assumption | omega | trivial)))
    | (refine And.intro (Ob.out ?_) ?_)
    | (refine WP.block ?_)
    | (refine WP.cond rfl (fun hc => ?_) (fun hc => ?_) <;> (try simp only [ZC, reduceCtorEq, ZD] at hc) <;> (try (exact absurd hc (by decide))) <;> (try (exfalso; omega)))
    | ((first | refine WP.skip ?_ | refine WP.exit ?_); simp only [SeqQ, BlkQ, LoopQ, BodyQ, ↓reduceIte, Nat.reduceEqDiff, reduceCtorEq, look, true_and])
    | (refine WP.ret (Sm.out ?_))
    | (first | refine ExG.no (Sm.out ?_) | refine Or.inl (ExG.no (Sm.out ?_)) | refine Or.inl (And.intro (fun hg => absurd hg (by decide)) (ExG.no (Sm.out ?_))))
    | (refine Rt.mk ?_; refine And.intro ?_ ?_ <;> (intro hg; first | exact absurd hg (by decide) | refine Sm.out ?_))
    | (refine Nu.mk ?_; first | (fail_if_success (have := nb1)); intro nb1 | (fail_if_success (have := nb2)); intro nb2 | (fail_if_success (have := nb3)); intro nb3 | (fail_if_success (have := nb4)); intro nb4 | intro nbz)
    | (refine Fr.mk ?_; intro hfr; (first | (have hFRb : _ ≤ _ ∧ _ ≤ _ := And.intro hfr.1 hfr.2.1) | (have hFRb : _ ≤ _ := hfr.1) | skip); replace FR := Sm.mk (And.intro hfr FR.out); clear hfr; refine Sm.out ?_)
    | (refine Two.mk ?_ ?_)
    | (refine Cs.mk ?_; intro hcs; first | exact False.elim hcs | (exfalso; omega) | (refine Sm.out ?_))
    | go_step
    | omega
    | (simp only [maxLen_eq]; omega)
  refine WP.loop (Γ := Unit) (fun _ => ⟨[(4, iv .i64 5), (0, ms b 1 5 23), (1, iv .u64 (x : Int))], [(b, .zs .u8 L 24 ty)]⟩) (fun _ => True) (fun _ => 0) () trivial (Sub.pick (by simp [pickB, hget, hdel, FR.out]) (by simp [look])) ?_
  intro _ _
  have FR : Sm (¬ ((1 : Nat) = 0)) := Sm.mk Nat.one_ne_zero
  first | (have FRx := FR; clear FRx) | (have FR : Sm (¬ ((1 : Nat) = 0)) := Sm.mk Nat.one_ne_zero)
  repeat' first
    | (refine Sm.mk ?_; try simp -dsimp only [ZK, rvc, drawF, headN, pureH, stp, dvc, calleeOf, gcall, pev, eff, newB, okd, og, ogs, ogo, ogp, slv, bltv, opd, litv, strip, one, both, putE, St.put, look, gdOf, gdv, picka, pickv, pickw, binv, bini, bins, binb, binp, binq, isSlT, bina, shp, eqCells, unv, convv, nilv, faddv, addp, idxav, idxp, load1, load1m, loadn, loadnm, loadv, hget, hset, hrep, hdel, slicev, bnd, shift1, lenv, capv, IntKind.bits, extractv, fieldv, indexv, min2v, max2v, mkiv, cellsA, fillA, buildv, stC, oneC, rowMB, intsA, plN, appE, appZ, appC, appNZ, appNC, VwL, srcC, srcZ, srcM, isBoolT, isPtrT, isSliceT, uOk, Value.oneCell', Nat.reducePow, Int.reducePow, Nat.reduceAdd, Nat.reduceMul, Nat.reduceSub, Nat.reduceLT, Nat.reduceLeDiff, Nat.reduceEqDiff, Nat.reduceBEq, Nat.reduceDiv, Nat.reduceMod, ↓reduceIte, reduceCtorEq, Int.reduceToNat, Int.reduceLT, Int.reduceLE, TFStB, SeqQ, BlkQ, LoopQ, BodyQ, w1, w2, r1, r2, r3, r4, w3, w4, w5, w6, w7, w8, w9, w10, w11, t1, a1, a2, a3, a4, tab100_eq, tab100_size, hL, List.length_set, f1, f2, f3, f4, FR.out])
    | (refine WP.seq fun K hK => ?_)
    | ((fail_if_success (show WP _ _ _ (.region 17 _ _) _ _)); refine WP.region (rvc_sound _ _ (Sm.out ?_)))
    | ((fail_if_success (show WP _ _ _ (.region 17 _ _) _ _)); refine WP.drawK rfl mixed (by decide +kernel) (Sm.out ?_))
    | (refine Ob.mk ?_; focus (first | assumption | omega | decide | trivial | (intro hob; simp only [hob, ZF]; done) | (intros; (repeat' refine And.intro ?_ ?_) <;> first | assumption | omega | trivial | decide) | (intros; simp only [ZE] at *; (repeat' refine And.intro ?_ ?_) <;> first | assumption | omega | trivial)))
    | (refine And.intro (Ob.out ?_) ?_)
    | (refine WP.block ?_)
    | (refine WP.cond rfl (fun hc => ?_) (fun hc => ?_) <;> (try simp only [ZC, reduceCtorEq, ZD] at hc) <;> (try (exact absurd hc (by decide))) <;> (try (exfalso; omega)))
    | ((first | refine WP.skip ?_ | refine WP.exit ?_); simp only [SeqQ, BlkQ, LoopQ, BodyQ, ↓reduceIte, Nat.reduceEqDiff, reduceCtorEq, look, true_and])
    | (refine WP.ret (Sm.out ?_))
    | (first | refine ExG.no (Sm.out ?_) | refine Or.inl (ExG.no (Sm.out ?_)) | refine Or.inl (And.intro (fun hg => absurd hg (by decide)) (ExG.no (Sm.out ?_))))
    | (refine Rt.mk ?_; refine And.intro ?_ ?_ <;> (intro hg; first | exact absurd hg (by decide) | refine Sm.out ?_))
    | (refine Nu.mk ?_; first | (fail_if_success (have := nb1)); intro nb1 | (fail_if_success (have := nb2)); intro nb2 | (fail_if_success (have := nb3)); intro nb3 | (fail_if_success (have := nb4)); intro nb4 | intro nbz)
    | (refine Fr.mk ?_; intro hfr; (first | (have hFRb : _ ≤ _ ∧ _ ≤ _ := And.intro hfr.1 hfr.2.1) | (have hFRb : _ ≤ _ := hfr.1) | skip); replace FR := Sm.mk (And.intro hfr FR.out); clear hfr; refine Sm.out ?_)
    | (refine Two.mk ?_ ?_)
    | (refine Cs.mk ?_; intro hcs; first | exact False.elim hcs | (exfalso; omega) | (refine Sm.out ?_))
    | go_step
    | omega
    | (simp only [maxLen_eq]; omega)
  refine WP.drawS2 (is := 12) (k := 13) b 5 mixed (by decide +kernel) (by decide +kernel) (Sm.out ?_)
  first | (have FRx := FR; clear FRx) | (have FR : Sm (¬ ((1 : Nat) = 0)) := Sm.mk Nat.one_ne_zero)
  repeat' first
    | (refine Sm.mk ?_; try simp -dsimp only [ZK, rvc, drawF, headN, pureH, stp, dvc, calleeOf, gcall, pev, eff, newB, okd, og, ogs, ogo, ogp, slv, bltv, opd, litv, strip, one, both, putE, St.put, look, gdOf, gdv, picka, pickv, pickw, binv, bini, bins, binb, binp, binq, isSlT, bina, shp, eqCells, unv, convv, nilv, faddv, addp, idxav, idxp, load1, load1m, loadn, loadnm, loadv, hget, hset, hrep, hdel, slicev, bnd, shift1, lenv, capv, IntKind.bits, extractv, fieldv, indexv, min2v, max2v, mkiv, cellsA, fillA, buildv, stC, oneC, rowMB, intsA, plN, appE, appZ, appC, appNZ, appNC, VwL, srcC, srcZ, srcM, isBoolT, isPtrT, isSliceT, uOk, Value.oneCell', Nat.reducePow, Int.reducePow, Nat.reduceAdd, Nat.reduceMul, Nat.reduceSub, Nat.reduceLT, Nat.reduceLeDiff, Nat.reduceEqDiff, Nat.reduceBEq, Nat.reduceDiv, Nat.reduceMod, ↓reduceIte, reduceCtorEq, Int.reduceToNat, Int.reduceLT, Int.reduceLE, TFStB, SeqQ, BlkQ, LoopQ, BodyQ, drawSG, hdel, w1, w2, r1, r2, r3, r4, w3, w4, w5, w6, w7, w8, w9, w10, w11, t1, a1, a2, a3, a4, tab100_eq, tab100_size, hL, List.length_set, f1, f2, f3, f4, FR.out])
    | (refine WP.seq fun K hK => ?_)
    | ((fail_if_success (show WP _ _ _ (.region 18 _ _) _ _)); refine WP.region (rvc_sound _ _ (Sm.out ?_)))
    | ((fail_if_success (show WP _ _ _ (.region 18 _ _) _ _)); refine WP.drawK rfl mixed (by decide +kernel) (Sm.out ?_))
    | (refine Ob.mk ?_; focus (first | assumption | omega | decide | trivial | (intro hob; simp only [hob, ZF]; done) | (intros; (repeat' refine And.intro ?_ ?_) <;> first | assumption | omega | trivial | decide) | (intros; simp only [ZE] at *; (repeat' refine And.intro ?_ ?_) <;> first | assumption | omega | trivial)))
    | (refine And.intro (Ob.out ?_) ?_)
    | (refine WP.block ?_)
    | (refine WP.cond rfl (fun hc => ?_) (fun hc => ?_) <;> (try simp only [ZC, reduceCtorEq, ZD] at hc) <;> (try (exact absurd hc (by decide))) <;> (try (exfalso; omega)))
    | ((first | refine WP.skip ?_ | refine WP.exit ?_); simp only [SeqQ, BlkQ, LoopQ, BodyQ, ↓reduceIte, Nat.reduceEqDiff, reduceCtorEq, look, true_and])
    | (refine WP.ret (Sm.out ?_))
    | (first | refine ExG.no (Sm.out ?_) | refine Or.inl (ExG.no (Sm.out ?_)) | refine Or.inl (And.intro (fun hg => absurd hg (by decide)) (ExG.no (Sm.out ?_))))
    | (refine Rt.mk ?_; refine And.intro ?_ ?_ <;> (intro hg; first | exact absurd hg (by decide) | refine Sm.out ?_))
    | (refine Nu.mk ?_; first | (fail_if_success (have := nb1)); intro nb1 | (fail_if_success (have := nb2)); intro nb2 | (fail_if_success (have := nb3)); intro nb3 | (fail_if_success (have := nb4)); intro nb4 | intro nbz)
    | (refine Fr.mk ?_; intro hfr; (first | (have hFRb : _ ≤ _ ∧ _ ≤ _ := And.intro hfr.1 hfr.2.1) | (have hFRb : _ ≤ _ := hfr.1) | skip); replace FR := Sm.mk (And.intro hfr FR.out); clear hfr; refine Sm.out ?_)
    | (refine Two.mk ?_ ?_)
    | (refine Cs.mk ?_; intro hcs; first | exact False.elim hcs | (exfalso; omega) | (refine Sm.out ?_))
    | go_step
    | omega
    | (simp only [maxLen_eq]; omega)
  refine WP.drawS2 (is := 12) (k := 13) b 3 mixed (by decide +kernel) (by decide +kernel) (Sm.out ?_)
  first | (have FRx := FR; clear FRx) | (have FR : Sm (¬ ((1 : Nat) = 0)) := Sm.mk Nat.one_ne_zero)
  repeat' first
    | (refine Sm.mk ?_; try simp -dsimp only [ZK, rvc, drawF, headN, pureH, stp, dvc, calleeOf, gcall, pev, eff, newB, okd, og, ogs, ogo, ogp, slv, bltv, opd, litv, strip, one, both, putE, St.put, look, gdOf, gdv, picka, pickv, pickw, binv, bini, bins, binb, binp, binq, isSlT, bina, shp, eqCells, unv, convv, nilv, faddv, addp, idxav, idxp, load1, load1m, loadn, loadnm, loadv, hget, hset, hrep, hdel, slicev, bnd, shift1, lenv, capv, IntKind.bits, extractv, fieldv, indexv, min2v, max2v, mkiv, cellsA, fillA, buildv, stC, oneC, rowMB, intsA, plN, appE, appZ, appC, appNZ, appNC, VwL, srcC, srcZ, srcM, isBoolT, isPtrT, isSliceT, uOk, Value.oneCell', Nat.reducePow, Int.reducePow, Nat.reduceAdd, Nat.reduceMul, Nat.reduceSub, Nat.reduceLT, Nat.reduceLeDiff, Nat.reduceEqDiff, Nat.reduceBEq, Nat.reduceDiv, Nat.reduceMod, ↓reduceIte, reduceCtorEq, Int.reduceToNat, Int.reduceLT, Int.reduceLE, TFStB, SeqQ, BlkQ, LoopQ, BodyQ, drawSG, hdel, w1, w2, r1, r2, r3, r4, w3, w4, w5, w6, w7, w8, w9, w10, w11, t1, a1, a2, a3, a4, tab100_eq, tab100_size, hL, List.length_set, f1, f2, f3, f4, FR.out])
    | (refine WP.seq fun K hK => ?_)
    | (refine WP.region (rvc_sound _ _ (Sm.out ?_)))
    | (refine WP.drawK rfl mixed (by decide +kernel) (Sm.out ?_))
    | (refine Ob.mk ?_; focus (first | assumption | omega | decide | trivial | (intro hob; simp only [hob, ZF]; done) | (intros; (repeat' refine And.intro ?_ ?_) <;> first | assumption | omega | trivial | decide) | (intros; simp only [ZE] at *; (repeat' refine And.intro ?_ ?_) <;> first | assumption | omega | trivial)))
    | (refine And.intro (Ob.out ?_) ?_)
    | (refine WP.block ?_)
    | (refine WP.cond rfl (fun hc => ?_) (fun hc => ?_) <;> (try simp only [ZC, reduceCtorEq, ZD] at hc) <;> (try (exact absurd hc (by decide))) <;> (try (exfalso; omega)))
    | ((first | refine WP.skip ?_ | refine WP.exit ?_); simp only [SeqQ, BlkQ, LoopQ, BodyQ, ↓reduceIte, Nat.reduceEqDiff, reduceCtorEq, look, true_and])
    | (refine WP.ret (Sm.out ?_))
    | (first | refine ExG.no (Sm.out ?_) | refine Or.inl (ExG.no (Sm.out ?_)) | refine Or.inl (And.intro (fun hg => absurd hg (by decide)) (ExG.no (Sm.out ?_))))
    | (refine Rt.mk ?_; refine And.intro ?_ ?_ <;> (intro hg; first | exact absurd hg (by decide) | refine Sm.out ?_))
    | (refine Nu.mk ?_; first | (fail_if_success (have := nb1)); intro nb1 | (fail_if_success (have := nb2)); intro nb2 | (fail_if_success (have := nb3)); intro nb3 | (fail_if_success (have := nb4)); intro nb4 | intro nbz)
    | (refine Fr.mk ?_; intro hfr; (first | (have hFRb : _ ≤ _ ∧ _ ≤ _ := And.intro hfr.1 hfr.2.1) | (have hFRb : _ ≤ _ := hfr.1) | skip); replace FR := Sm.mk (And.intro hfr FR.out); clear hfr; refine Sm.out ?_)
    | (refine Two.mk ?_ ?_)
    | (refine Cs.mk ?_; intro hcs; first | exact False.elim hcs | (exfalso; omega) | (refine Sm.out ?_))
    | go_step
    | omega
    | (simp only [maxLen_eq]; omega)
  (refine OutQ.upd (by simp only [resv, ZK, look, loadv, loadn, loadnm, load1, load1m, hget, ↓reduceIte, Nat.reduceEqDiff, Nat.reduceAdd, Nat.reduceMul, Nat.reduceLeDiff, Nat.reduceLT, reduceCtorEq, TFStB, FR.out, hL, f1, f2, f3, f4]) (by simp only [resv, resA, ZK, look, loadv, loadn, loadnm, load1, load1m, hget, ↓reduceIte, Nat.reduceEqDiff, Nat.reduceAdd, Nat.reduceMul, Nat.reduceLeDiff, Nat.reduceLT, reduceCtorEq, TFStB, FR.out, hL, f1, f2, f3, f4]; first | done | rfl) (by simp only [hget, ↓reduceIte, if_true, if_false, FR.out, hL, f1, f2, f3, f4]; first | done | rfl) ?_ <;> first | exact rfl | (simp only [ZK, look, loadv, loadn, loadnm, load1, load1m, hget, ↓reduceIte, Nat.reduceEqDiff, Nat.reduceAdd, Nat.reduceMul, Nat.reduceLeDiff, Nat.reduceLT, reduceCtorEq, TFStB, FR.out, hL, f1, f2, f3, f4]; done) | skip)
theorem row24 (L : List Int) (x : Nat) (h : L.length = 24) : (put5 L x).length = 24 := by rw [put5_len, h]
set_option maxHeartbeats 2000000 in
theorem format_small (n0 : Nat) (x : Nat) (hx : x < 100) : ACt Tryd.prog 47 [iv .i64 (x : Int), iv .i64 10] (GG n0) (fun r F' => r = stz (dgs x) ∧ F' = GG n0) := by
  have cS := small_ct x hx
  refine ACt.intro Tryd.func47 rfl (by kernel_rfl) (by simp [Tryd.ntmps47]) (fun cx => ?_)
  simp only [argE, Tryd.ntmps47, Tryd.results47, GG, p10]
  have k1 : decide ((0 : Int) ≤ (x : Int)) = true := by simp
  have k2 : decide ((x : Int) < 100) = true := by simp; omega
  first | (have FRx := FR; clear FRx) | (have FR : Sm (¬ ((1 : Nat) = 0)) := Sm.mk Nat.one_ne_zero)
  repeat' first
    | (refine Sm.mk ?_; try simp -dsimp only [ZK, rvc, drawF, headN, pureH, stp, dvc, calleeOf, gcall, pev, eff, newB, okd, og, ogs, ogo, ogp, slv, bltv, opd, litv, strip, one, both, putE, St.put, look, gdOf, gdv, picka, pickv, pickw, binv, bini, bins, binb, binp, binq, isSlT, bina, shp, eqCells, unv, convv, nilv, faddv, addp, idxav, idxp, load1, load1m, loadn, loadnm, loadv, hget, hset, hrep, hdel, slicev, bnd, shift1, lenv, capv, IntKind.bits, extractv, fieldv, indexv, min2v, max2v, mkiv, cellsA, fillA, buildv, stC, oneC, rowMB, intsA, plN, appE, appZ, appC, appNZ, appNC, VwL, srcC, srcZ, srcM, isBoolT, isPtrT, isSliceT, uOk, Value.oneCell', Nat.reducePow, Int.reducePow, Nat.reduceAdd, Nat.reduceMul, Nat.reduceSub, Nat.reduceLT, Nat.reduceLeDiff, Nat.reduceEqDiff, Nat.reduceBEq, Nat.reduceDiv, Nat.reduceMod, ↓reduceIte, reduceCtorEq, Int.reduceToNat, Int.reduceLT, Int.reduceLE, TFStB, SeqQ, BlkQ, LoopQ, BodyQ, k1, k2, FR.out])
    | (first | refine CallV.fn (cS) (Sm.out ?_) | refine ExF.mk (cS) (Sm.out ?_) | refine ExG.mk (fun _ => cS) (Sm.out ?_) | refine ExG.mkJ (fun _ => cS) (Sm.out ?_) | refine ExG.mkI (Ob.out ?_) (fun _ => cS) (Sm.out ?_))
    | (refine WP.seq fun K hK => ?_)
    | (refine WP.region (rvc_sound _ _ (Sm.out ?_)))
    | (refine WP.drawK rfl mixed (by decide +kernel) (Sm.out ?_))
    | (refine Ob.mk ?_; focus (first | assumption | omega | decide | trivial | (intro hob; simp only [hob, ZF]; done) | (intros; (repeat' refine And.intro ?_ ?_) <;> first | assumption | omega | trivial | decide) | (intros; simp only [ZE] at *; (repeat' refine And.intro ?_ ?_) <;> first | assumption | omega | trivial)))
    | (refine And.intro (Ob.out ?_) ?_)
    | (refine WP.block ?_)
    | (refine WP.cond rfl (fun hc => ?_) (fun hc => ?_) <;> (try simp only [ZC, reduceCtorEq, ZD] at hc) <;> (try (exact absurd hc (by decide))) <;> (try (exfalso; omega)))
    | ((first | refine WP.skip ?_ | refine WP.exit ?_); simp only [SeqQ, BlkQ, LoopQ, BodyQ, ↓reduceIte, Nat.reduceEqDiff, reduceCtorEq, look, true_and])
    | (refine WP.ret (Sm.out ?_))
    | (first | refine ExG.no (Sm.out ?_) | refine Or.inl (ExG.no (Sm.out ?_)) | refine Or.inl (And.intro (fun hg => absurd hg (by decide)) (ExG.no (Sm.out ?_))))
    | (refine Rt.mk ?_; refine And.intro ?_ ?_ <;> (intro hg; first | exact absurd hg (by decide) | refine Sm.out ?_))
    | (refine Nu.mk ?_; first | (fail_if_success (have := nb1)); intro nb1 | (fail_if_success (have := nb2)); intro nb2 | (fail_if_success (have := nb3)); intro nb3 | (fail_if_success (have := nb4)); intro nb4 | intro nbz)
    | (refine Fr.mk ?_; intro hfr; (first | (have hFRb : _ ≤ _ ∧ _ ≤ _ := And.intro hfr.1 hfr.2.1) | (have hFRb : _ ≤ _ := hfr.1) | skip); replace FR := Sm.mk (And.intro hfr FR.out); clear hfr; refine Sm.out ?_)
    | (refine Two.mk ?_ ?_)
    | (refine Cs.mk ?_; intro hcs; first | exact False.elim hcs | (exfalso; omega) | (refine Sm.out ?_))
    | go_step
    | omega
    | (simp only [maxLen_eq]; omega)
  (refine OutQ.upd (by simp only [resv, ZK, look, loadv, loadn, loadnm, load1, load1m, hget, ↓reduceIte, Nat.reduceEqDiff, Nat.reduceAdd, Nat.reduceMul, Nat.reduceLeDiff, Nat.reduceLT, reduceCtorEq, TFStB, FR.out]) (by simp only [resv, resA, ZK, look, loadv, loadn, loadnm, load1, load1m, hget, ↓reduceIte, Nat.reduceEqDiff, Nat.reduceAdd, Nat.reduceMul, Nat.reduceLeDiff, Nat.reduceLT, reduceCtorEq, TFStB, FR.out]; first | done | rfl) (by simp only [hget, ↓reduceIte, if_true, if_false, FR.out]; first | done | rfl) ?_ <;> first | exact rfl | (simp only [ZK, look, loadv, loadn, loadnm, load1, load1m, hget, ↓reduceIte, Nat.reduceEqDiff, Nat.reduceAdd, Nat.reduceMul, Nat.reduceLeDiff, Nat.reduceLT, reduceCtorEq, TFStB, FR.out]; done) | skip)
set_option maxHeartbeats 2000000 in
theorem format_five (n0 : Nat) (y : Nat) (hy : y ≤ 9999) : ACt Tryd.prog 47 [iv .i64 ((10000 + y : Nat) : Int), iv .i64 10] (GG n0) (fun r F' => r = stz (dg5 y) ∧ F' = GG n0) := by
  have cN := numd_ct n0 (10000 + y) (by omega)
  have cB := fun b ty => base10_ct b ty Z0 rfl y hy
  obtain ⟨Z, hZ⟩ : ∃ Z, Z = put5 Z0 y := ⟨_, rfl⟩
  have lZ : Z.length = 24 := by rw [hZ, row24 _ _ rfl]
  have cZ : (Z.drop 1).take 5 = dg5 y := by rw [hZ]; exact put5_cut _ _ rfl
  rw [← hZ] at cB
  obtain ⟨x, hx⟩ : ∃ x, x = 10000 + y := ⟨_, rfl⟩
  rw [← hx] at cN cB ⊢
  refine ACt.intro Tryd.func47 rfl (by kernel_rfl) (by simp [Tryd.ntmps47]) (fun cx => ?_)
  simp only [argE, Tryd.ntmps47, Tryd.results47, GG, p10]
  have k1 : decide ((0 : Int) ≤ (x : Int)) = true := by simp
  have k2 : decide ((x : Int) < 100) = false := by simp; omega
  have k3 : decide ((x : Int) < 0) = false := by simp
  have w1 : IntKind.u64.wrap (x : Int) = (x : Int) := wrap_u64 (by omega) (by omega)
  have w2 : IntKind.i64.wrap (1 + 5) = 6 := by decide
  simp only [GG, p10] at cN
  first | (have FRx := FR; clear FRx) | (have FR : Sm (¬ ((1 : Nat) = 0)) := Sm.mk Nat.one_ne_zero)
  repeat' first
    | (refine Sm.mk ?_; try simp -dsimp only [ZK, rvc, drawF, headN, pureH, stp, dvc, calleeOf, gcall, pev, eff, newB, okd, og, ogs, ogo, ogp, slv, bltv, opd, litv, strip, one, both, putE, St.put, look, gdOf, gdv, picka, pickv, pickw, binv, bini, bins, binb, binp, binq, isSlT, bina, shp, eqCells, unv, convv, nilv, faddv, addp, idxav, idxp, load1, load1m, loadn, loadnm, loadv, hget, hset, hrep, hdel, slicev, bnd, shift1, lenv, capv, IntKind.bits, extractv, fieldv, indexv, min2v, max2v, mkiv, cellsA, fillA, buildv, stC, oneC, rowMB, intsA, plN, appE, appZ, appC, appNZ, appNC, VwL, srcC, srcZ, srcM, isBoolT, isPtrT, isSliceT, uOk, Value.oneCell', Nat.reducePow, Int.reducePow, Nat.reduceAdd, Nat.reduceMul, Nat.reduceSub, Nat.reduceLT, Nat.reduceLeDiff, Nat.reduceEqDiff, Nat.reduceBEq, Nat.reduceDiv, Nat.reduceMod, ↓reduceIte, reduceCtorEq, Int.reduceToNat, Int.reduceLT, Int.reduceLE, TFStB, SeqQ, BlkQ, LoopQ, BodyQ, k1, k2, k3, w1, w2, FR.out])
    | (refine CallV.upd (by simp only [hget, ↓reduceIte, FR.out, k1, k2, k3, w1, w2]; first | done | rfl) (cN) (Sm.out ?_))
    | (refine CallV.upd (by simp only [hget, ↓reduceIte, FR.out, k1, k2, k3, w1, w2]; first | done | rfl) (cB _ _) (Sm.out ?_))
    | (refine WP.seq fun K hK => ?_)
    | (refine WP.region (rvc_sound _ _ (Sm.out ?_)))
    | (refine WP.drawK rfl mixed (by decide +kernel) (Sm.out ?_))
    | (refine Ob.mk ?_; focus (first | assumption | omega | decide | trivial | (intro hob; simp only [hob, ZF]; done) | (intros; (repeat' refine And.intro ?_ ?_) <;> first | assumption | omega | trivial | decide) | (intros; simp only [ZE] at *; (repeat' refine And.intro ?_ ?_) <;> first | assumption | omega | trivial)))
    | (refine And.intro (Ob.out ?_) ?_)
    | (refine WP.block ?_)
    | (refine WP.cond rfl (fun hc => ?_) (fun hc => ?_) <;> (try simp only [ZC, reduceCtorEq, ZD] at hc) <;> (try (exact absurd hc (by decide))) <;> (try (exfalso; omega)))
    | ((first | refine WP.skip ?_ | refine WP.exit ?_); simp only [SeqQ, BlkQ, LoopQ, BodyQ, ↓reduceIte, Nat.reduceEqDiff, reduceCtorEq, look, true_and])
    | (refine WP.ret (Sm.out ?_))
    | (first | refine ExG.no (Sm.out ?_) | refine Or.inl (ExG.no (Sm.out ?_)) | refine Or.inl (And.intro (fun hg => absurd hg (by decide)) (ExG.no (Sm.out ?_))))
    | (refine Rt.mk ?_; refine And.intro ?_ ?_ <;> (intro hg; first | exact absurd hg (by decide) | refine Sm.out ?_))
    | (refine Nu.mk ?_; first | (fail_if_success (have := nb1)); intro nb1 | (fail_if_success (have := nb2)); intro nb2 | (fail_if_success (have := nb3)); intro nb3 | (fail_if_success (have := nb4)); intro nb4 | intro nbz)
    | (refine Fr.mk ?_; intro hfr; (first | (have hFRb : _ ≤ _ ∧ _ ≤ _ := And.intro hfr.1 hfr.2.1) | (have hFRb : _ ≤ _ := hfr.1) | skip); replace FR := Sm.mk (And.intro hfr FR.out); clear hfr; refine Sm.out ?_)
    | (refine Two.mk ?_ ?_)
    | (refine Cs.mk ?_; intro hcs; first | exact False.elim hcs | (exfalso; omega) | (refine Sm.out ?_))
    | go_step
    | omega
    | (simp only [maxLen_eq]; omega)
  (refine OutQ.upd (by simp only [resv, ZK, look, loadv, loadn, loadnm, load1, load1m, hget, ↓reduceIte, Nat.reduceEqDiff, Nat.reduceAdd, Nat.reduceMul, Nat.reduceLeDiff, Nat.reduceLT, reduceCtorEq, TFStB, FR.out, cZ]) (by simp only [resv, resA, ZK, look, loadv, loadn, loadnm, load1, load1m, hget, ↓reduceIte, Nat.reduceEqDiff, Nat.reduceAdd, Nat.reduceMul, Nat.reduceLeDiff, Nat.reduceLT, reduceCtorEq, TFStB, FR.out, cZ]; first | done | rfl) (by simp only [hget, ↓reduceIte, if_true, if_false, FR.out, cZ]; first | done | rfl) ?_ <;> first | exact rfl | (simp only [ZK, look, loadv, loadn, loadnm, load1, load1m, hget, ↓reduceIte, Nat.reduceEqDiff, Nat.reduceAdd, Nat.reduceMul, Nat.reduceLeDiff, Nat.reduceLT, reduceCtorEq, TFStB, FR.out, cZ]; done) | skip)
theorem itoa_of (n0 : Nat) (x : Int) (L : List Int) (cS : ACt Tryd.prog 47 [iv .i64 x, iv .i64 10] (GG n0) (fun r F' => r = stz L ∧ F' = GG n0)) : ACt Tryd.prog 26 [iv .i64 x] (GG n0) (fun r F' => r = stz L ∧ F' = GG n0) := by
  have cT : ACt Tryd.prog 36 [iv .i64 x] (GG n0) (fun r F' => r = stz L ∧ F' = GG n0) := by
    refine ACt.intro Tryd.func36 rfl (by kernel_rfl) (by simp [Tryd.ntmps36]) (fun cx => ?_)
    simp only [argE, Tryd.ntmps36, Tryd.results36, GG, p10] at cS ⊢
    first | (have FRx := FR; clear FRx) | (have FR : Sm (¬ ((1 : Nat) = 0)) := Sm.mk Nat.one_ne_zero)
    repeat' first
      | (refine Sm.mk ?_; try simp -dsimp only [ZK, rvc, drawF, headN, pureH, stp, dvc, calleeOf, gcall, pev, eff, newB, okd, og, ogs, ogo, ogp, slv, bltv, opd, litv, strip, one, both, putE, St.put, look, gdOf, gdv, picka, pickv, pickw, binv, bini, bins, binb, binp, binq, isSlT, bina, shp, eqCells, unv, convv, nilv, faddv, addp, idxav, idxp, load1, load1m, loadn, loadnm, loadv, hget, hset, hrep, hdel, slicev, bnd, shift1, lenv, capv, IntKind.bits, extractv, fieldv, indexv, min2v, max2v, mkiv, cellsA, fillA, buildv, stC, oneC, rowMB, intsA, plN, appE, appZ, appC, appNZ, appNC, VwL, srcC, srcZ, srcM, isBoolT, isPtrT, isSliceT, uOk, Value.oneCell', Nat.reducePow, Int.reducePow, Nat.reduceAdd, Nat.reduceMul, Nat.reduceSub, Nat.reduceLT, Nat.reduceLeDiff, Nat.reduceEqDiff, Nat.reduceBEq, Nat.reduceDiv, Nat.reduceMod, ↓reduceIte, reduceCtorEq, Int.reduceToNat, Int.reduceLT, Int.reduceLE, TFStB, SeqQ, BlkQ, LoopQ, BodyQ, FR.out])
      | (refine CallV.upd (by simp only [hget, ↓reduceIte, FR.out]; first | done | rfl) (cS) (Sm.out ?_))
      | (refine WP.seq fun K hK => ?_)
      | (refine WP.region (rvc_sound _ _ (Sm.out ?_)))
      | (refine WP.drawK rfl mixed (by decide +kernel) (Sm.out ?_))
      | (refine Ob.mk ?_; focus (first | assumption | omega | decide | trivial | (intro hob; simp only [hob, ZF]; done) | (intros; (repeat' refine And.intro ?_ ?_) <;> first | assumption | omega | trivial | decide) | (intros; simp only [ZE] at *; (repeat' refine And.intro ?_ ?_) <;> first | assumption | omega | trivial)))
      | (refine And.intro (Ob.out ?_) ?_)
      | (refine WP.block ?_)
      | (refine WP.cond rfl (fun hc => ?_) (fun hc => ?_) <;> (try simp only [ZC, reduceCtorEq, ZD] at hc) <;> (try (exact absurd hc (by decide))) <;> (try (exfalso; omega)))
      | ((first | refine WP.skip ?_ | refine WP.exit ?_); simp only [SeqQ, BlkQ, LoopQ, BodyQ, ↓reduceIte, Nat.reduceEqDiff, reduceCtorEq, look, true_and])
      | (refine WP.ret (Sm.out ?_))
      | (first | refine ExG.no (Sm.out ?_) | refine Or.inl (ExG.no (Sm.out ?_)) | refine Or.inl (And.intro (fun hg => absurd hg (by decide)) (ExG.no (Sm.out ?_))))
      | (refine Rt.mk ?_; refine And.intro ?_ ?_ <;> (intro hg; first | exact absurd hg (by decide) | refine Sm.out ?_))
      | (refine Nu.mk ?_; first | (fail_if_success (have := nb1)); intro nb1 | (fail_if_success (have := nb2)); intro nb2 | (fail_if_success (have := nb3)); intro nb3 | (fail_if_success (have := nb4)); intro nb4 | intro nbz)
      | (refine Fr.mk ?_; intro hfr; (first | (have hFRb : _ ≤ _ ∧ _ ≤ _ := And.intro hfr.1 hfr.2.1) | (have hFRb : _ ≤ _ := hfr.1) | skip); replace FR := Sm.mk (And.intro hfr FR.out); clear hfr; refine Sm.out ?_)
      | (refine Two.mk ?_ ?_)
      | (refine Cs.mk ?_; intro hcs; first | exact False.elim hcs | (exfalso; omega) | (refine Sm.out ?_))
      | go_step
      | omega
      | (simp only [maxLen_eq]; omega)
    (refine OutQ.upd (by simp only [resv, ZK, look, loadv, loadn, loadnm, load1, load1m, hget, ↓reduceIte, Nat.reduceEqDiff, Nat.reduceAdd, Nat.reduceMul, Nat.reduceLeDiff, Nat.reduceLT, reduceCtorEq, TFStB, FR.out]) (by simp only [resv, resA, ZK, look, loadv, loadn, loadnm, load1, load1m, hget, ↓reduceIte, Nat.reduceEqDiff, Nat.reduceAdd, Nat.reduceMul, Nat.reduceLeDiff, Nat.reduceLT, reduceCtorEq, TFStB, FR.out]; first | done | rfl) (by simp only [hget, ↓reduceIte, if_true, if_false, FR.out]; first | done | rfl) ?_ <;> first | exact rfl | (simp only [ZK, look, loadv, loadn, loadnm, load1, load1m, hget, ↓reduceIte, Nat.reduceEqDiff, Nat.reduceAdd, Nat.reduceMul, Nat.reduceLeDiff, Nat.reduceLT, reduceCtorEq, TFStB, FR.out]; done) | skip)
  refine ACt.intro Tryd.func26 rfl (by kernel_rfl) (by simp [Tryd.ntmps26]) (fun cx => ?_)
  simp only [argE, Tryd.ntmps26, Tryd.results26, GG, p10] at cT ⊢
  first | (have FRx := FR; clear FRx) | (have FR : Sm (¬ ((1 : Nat) = 0)) := Sm.mk Nat.one_ne_zero)
  repeat' first
    | (refine Sm.mk ?_; try simp -dsimp only [ZK, rvc, drawF, headN, pureH, stp, dvc, calleeOf, gcall, pev, eff, newB, okd, og, ogs, ogo, ogp, slv, bltv, opd, litv, strip, one, both, putE, St.put, look, gdOf, gdv, picka, pickv, pickw, binv, bini, bins, binb, binp, binq, isSlT, bina, shp, eqCells, unv, convv, nilv, faddv, addp, idxav, idxp, load1, load1m, loadn, loadnm, loadv, hget, hset, hrep, hdel, slicev, bnd, shift1, lenv, capv, IntKind.bits, extractv, fieldv, indexv, min2v, max2v, mkiv, cellsA, fillA, buildv, stC, oneC, rowMB, intsA, plN, appE, appZ, appC, appNZ, appNC, VwL, srcC, srcZ, srcM, isBoolT, isPtrT, isSliceT, uOk, Value.oneCell', Nat.reducePow, Int.reducePow, Nat.reduceAdd, Nat.reduceMul, Nat.reduceSub, Nat.reduceLT, Nat.reduceLeDiff, Nat.reduceEqDiff, Nat.reduceBEq, Nat.reduceDiv, Nat.reduceMod, ↓reduceIte, reduceCtorEq, Int.reduceToNat, Int.reduceLT, Int.reduceLE, TFStB, SeqQ, BlkQ, LoopQ, BodyQ, FR.out])
    | (refine CallV.upd (by simp only [hget, ↓reduceIte, FR.out]; first | done | rfl) (cT) (Sm.out ?_))
    | (refine WP.seq fun K hK => ?_)
    | (refine WP.region (rvc_sound _ _ (Sm.out ?_)))
    | (refine WP.drawK rfl mixed (by decide +kernel) (Sm.out ?_))
    | (refine Ob.mk ?_; focus (first | assumption | omega | decide | trivial | (intro hob; simp only [hob, ZF]; done) | (intros; (repeat' refine And.intro ?_ ?_) <;> first | assumption | omega | trivial | decide) | (intros; simp only [ZE] at *; (repeat' refine And.intro ?_ ?_) <;> first | assumption | omega | trivial)))
    | (refine And.intro (Ob.out ?_) ?_)
    | (refine WP.block ?_)
    | (refine WP.cond rfl (fun hc => ?_) (fun hc => ?_) <;> (try simp only [ZC, reduceCtorEq, ZD] at hc) <;> (try (exact absurd hc (by decide))) <;> (try (exfalso; omega)))
    | ((first | refine WP.skip ?_ | refine WP.exit ?_); simp only [SeqQ, BlkQ, LoopQ, BodyQ, ↓reduceIte, Nat.reduceEqDiff, reduceCtorEq, look, true_and])
    | (refine WP.ret (Sm.out ?_))
    | (first | refine ExG.no (Sm.out ?_) | refine Or.inl (ExG.no (Sm.out ?_)) | refine Or.inl (And.intro (fun hg => absurd hg (by decide)) (ExG.no (Sm.out ?_))))
    | (refine Rt.mk ?_; refine And.intro ?_ ?_ <;> (intro hg; first | exact absurd hg (by decide) | refine Sm.out ?_))
    | (refine Nu.mk ?_; first | (fail_if_success (have := nb1)); intro nb1 | (fail_if_success (have := nb2)); intro nb2 | (fail_if_success (have := nb3)); intro nb3 | (fail_if_success (have := nb4)); intro nb4 | intro nbz)
    | (refine Fr.mk ?_; intro hfr; (first | (have hFRb : _ ≤ _ ∧ _ ≤ _ := And.intro hfr.1 hfr.2.1) | (have hFRb : _ ≤ _ := hfr.1) | skip); replace FR := Sm.mk (And.intro hfr FR.out); clear hfr; refine Sm.out ?_)
    | (refine Two.mk ?_ ?_)
    | (refine Cs.mk ?_; intro hcs; first | exact False.elim hcs | (exfalso; omega) | (refine Sm.out ?_))
    | go_step
    | omega
    | (simp only [maxLen_eq]; omega)
  (refine OutQ.upd (by simp only [resv, ZK, look, loadv, loadn, loadnm, load1, load1m, hget, ↓reduceIte, Nat.reduceEqDiff, Nat.reduceAdd, Nat.reduceMul, Nat.reduceLeDiff, Nat.reduceLT, reduceCtorEq, TFStB, FR.out]) (by simp only [resv, resA, ZK, look, loadv, loadn, loadnm, load1, load1m, hget, ↓reduceIte, Nat.reduceEqDiff, Nat.reduceAdd, Nat.reduceMul, Nat.reduceLeDiff, Nat.reduceLT, reduceCtorEq, TFStB, FR.out]; first | done | rfl) (by simp only [hget, ↓reduceIte, if_true, if_false, FR.out]; first | done | rfl) ?_ <;> first | exact rfl | (simp only [ZK, look, loadv, loadn, loadnm, load1, load1m, hget, ↓reduceIte, Nat.reduceEqDiff, Nat.reduceAdd, Nat.reduceMul, Nat.reduceLeDiff, Nat.reduceLT, reduceCtorEq, TFStB, FR.out]; done) | skip)
end Go.Proofs.YtocfaghflhgeeaaDoor
namespace Go.Proofs.YtocfaghflhgeeaaDoor
open Go
set_option linter.unusedVariables false
set_option linter.unusedSimpArgs false
theorem TFStP : (((((type_of% tyc0) ∧ ((type_of% tyc3) ∧ (type_of% zmb3))) ∧ ((type_of% tyc4) ∧ ((type_of% zmb4) ∧ (type_of% tyc5)))) ∧ (((type_of% zmb5) ∧ ((type_of% tyc9) ∧ (type_of% zmb9))) ∧ ((type_of% tyc23) ∧ ((type_of% zmb23) ∧ (type_of% elt71))))) ∧ ((((type_of% tyc72) ∧ ((type_of% tyc75) ∧ (type_of% zmb75))) ∧ ((type_of% arr171) ∧ ((type_of% Tryd.underlying0) ∧ (type_of% Tryd.underlying3)))) ∧ (((type_of% Tryd.underlying4) ∧ ((type_of% Tryd.underlying5) ∧ (type_of% Tryd.underlying9))) ∧ (((type_of% Tryd.underlying23) ∧ (type_of% Tryd.underlying71)) ∧ ((type_of% Tryd.underlying72) ∧ (type_of% Tryd.underlying75)))))) :=
  ⟨⟨⟨⟨tyc0, ⟨tyc3, zmb3⟩⟩, ⟨tyc4, ⟨zmb4, tyc5⟩⟩⟩, ⟨⟨zmb5, ⟨tyc9, zmb9⟩⟩, ⟨tyc23, ⟨zmb23, elt71⟩⟩⟩⟩, ⟨⟨⟨tyc72, ⟨tyc75, zmb75⟩⟩, ⟨arr171, ⟨Tryd.underlying0, Tryd.underlying3⟩⟩⟩, ⟨⟨Tryd.underlying4, ⟨Tryd.underlying5, Tryd.underlying9⟩⟩, ⟨⟨Tryd.underlying23, Tryd.underlying71⟩, ⟨Tryd.underlying72, Tryd.underlying75⟩⟩⟩⟩⟩
/-- how much of a row is left, what stands behind it as c cut -/
def trN (zs : List Int) (c : Int) : Nat → Nat
  | 0 => 0
  | k + 1 => if zs.getD k 0 = c then trN zs c k else k + 1
theorem trN_succ (zs : List Int) (c : Int) (k : Nat) : trN zs c (k + 1) = if zs.getD k 0 = c then trN zs c k else k + 1 := rfl
theorem By.take {zs : List Int} (h : By zs) (k : Nat) : By (zs.take k) := fun i hi => by
  rw [List.length_take] at hi
  have := h i (by omega)
  have e : (zs.take k).getD i 0 = zs.getD i 0 := by simp [List.getD_eq_getElem?_getD, List.getElem?_take, show i < k by omega]
  rw [e]; exact this
theorem trimb_ct (zs : List Int) (hb : By zs) (hl : zs.length ≤ 1000) (c : Int) : ACt Tryd.prog 37 [stz zs, iv .u8 c] [] (Fn (stz (zs.take (trN zs c zs.length)))) := by
  refine ACt.intro Tryd.func37 rfl (by kernel_rfl) (by simp [Tryd.ntmps37]) (fun cx => ?_)
  simp only [argE, Tryd.ntmps37, Tryd.results37]
  first | (have FRx := FR; clear FRx) | (have FR : Sm (¬ ((1 : Nat) = 0)) := Sm.mk Nat.one_ne_zero)
  repeat' first
    | (refine Sm.mk ?_; try simp -dsimp only [ZK, rvc, drawF, headN, pureH, stp, dvc, calleeOf, gcall, pev, eff, newB, okd, og, ogs, ogo, ogp, slv, bltv, opd, litv, strip, one, both, putE, St.put, look, gdOf, gdv, picka, pickv, pickw, binv, bini, bins, binb, binp, binq, isSlT, bina, shp, eqCells, unv, convv, nilv, faddv, addp, idxav, idxp, load1, load1m, loadn, loadnm, loadv, hget, hset, hrep, hdel, slicev, bnd, shift1, lenv, capv, IntKind.bits, extractv, fieldv, indexv, min2v, max2v, mkiv, cellsA, fillA, buildv, stC, oneC, rowMB, intsA, plN, appE, appZ, appC, appNZ, appNC, VwL, srcC, srcZ, srcM, isBoolT, isPtrT, isSliceT, uOk, Value.oneCell', Nat.reducePow, Int.reducePow, Nat.reduceAdd, Nat.reduceMul, Nat.reduceSub, Nat.reduceLT, Nat.reduceLeDiff, Nat.reduceEqDiff, Nat.reduceBEq, Nat.reduceDiv, Nat.reduceMod, ↓reduceIte, reduceCtorEq, Int.reduceToNat, Int.reduceLT, Int.reduceLE, TFStP, SeqQ, BlkQ, LoopQ, BodyQ, FR.out])
    | (refine WP.seq fun K hK => ?_)
    | (refine WP.region (rvc_sound _ _ (Sm.out ?_)))
    | (refine WP.drawK rfl mixed (by decide +kernel) (Sm.out ?_))
    | (refine Ob.mk ?_; focus (first | assumption | omega | decide | trivial | (intro hob; simp only [hob, ZF]; done) | (intros; (repeat' refine And.intro ?_ ?_) <;> first | assumption | omega | trivial | decide) | (intros; simp only [ZE] at *; (repeat' refine And.intro ?_ ?_) <;> first | assumption | omega | trivial)))
    | (refine And.intro (Ob.out ?_) ?_)
    | (refine WP.block ?_)
    | (refine WP.cond rfl (fun hc => ?_) (fun hc => ?_) <;> (try simp only [ZC, reduceCtorEq, ZD] at hc) <;> (try (exact absurd hc (by decide))) <;> (try (exfalso; omega)))
    | ((first | refine WP.skip ?_ | refine WP.exit ?_); simp only [SeqQ, BlkQ, LoopQ, BodyQ, ↓reduceIte, Nat.reduceEqDiff, reduceCtorEq, look, true_and])
    | (refine WP.ret (Sm.out ?_))
    | (first | refine ExG.no (Sm.out ?_) | refine Or.inl (ExG.no (Sm.out ?_)) | refine Or.inl (And.intro (fun hg => absurd hg (by decide)) (ExG.no (Sm.out ?_))))
    | (refine Rt.mk ?_; refine And.intro ?_ ?_ <;> (intro hg; first | exact absurd hg (by decide) | refine Sm.out ?_))
    | (refine Nu.mk ?_; first | (fail_if_success (have := nb1)); intro nb1 | (fail_if_success (have := nb2)); intro nb2 | (fail_if_success (have := nb3)); intro nb3 | (fail_if_success (have := nb4)); intro nb4 | intro nbz)
    | (refine Fr.mk ?_; intro hfr; (first | (have hFRb : _ ≤ _ ∧ _ ≤ _ := And.intro hfr.1 hfr.2.1) | (have hFRb : _ ≤ _ := hfr.1) | skip); replace FR := Sm.mk (And.intro hfr FR.out); clear hfr; refine Sm.out ?_)
    | (refine Two.mk ?_ ?_)
    | (refine Cs.mk ?_; intro hcs; first | exact False.elim hcs | (exfalso; omega) | (refine Sm.out ?_))
    | go_step
    | omega
    | (simp only [maxLen_eq]; omega)
  refine WP.loop (Γ := Nat) (fun k => ⟨[(0, stz (zs.take k)), (1, iv .u8 c)], []⟩) (fun k => k ≤ zs.length ∧ trN zs c zs.length = trN zs c k) (fun k => k) zs.length ⟨Nat.le_refl _, rfl⟩ (Sub.pick (by simp [pickB, hget, hdel, FR.out, List.take_length]) (by simp [look, List.take_length])) ?_
  intro k ⟨hk, ht⟩
  try simp only at hk ht ⊢
  have FR : Sm (¬ ((1 : Nat) = 0)) := Sm.mk Nat.one_ne_zero
  obtain ⟨S, hS⟩ : ∃ S, S = zs.take k := ⟨_, rfl⟩
  have lS : S.length = k := by rw [hS]; simp; omega
  have hs := bstr_size S
  rw [lS] at hs
  cases k with
  | zero =>
    have hfin : zs.take (trN zs c zs.length) = S := by rw [ht, hS]; rfl
    have k1 : decide (((0 : Nat) : Int) > 0) = false := by decide
    rw [← hS]
    first | (have FRx := FR; clear FRx) | (have FR : Sm (¬ ((1 : Nat) = 0)) := Sm.mk Nat.one_ne_zero)
    repeat' first
      | (refine Sm.mk ?_; try simp -dsimp only [ZK, rvc, drawF, headN, pureH, stp, dvc, calleeOf, gcall, pev, eff, newB, okd, og, ogs, ogo, ogp, slv, bltv, opd, litv, strip, one, both, putE, St.put, look, gdOf, gdv, picka, pickv, pickw, binv, bini, bins, binb, binp, binq, isSlT, bina, shp, eqCells, unv, convv, nilv, faddv, addp, idxav, idxp, load1, load1m, loadn, loadnm, loadv, hget, hset, hrep, hdel, slicev, bnd, shift1, lenv, capv, IntKind.bits, extractv, fieldv, indexv, min2v, max2v, mkiv, cellsA, fillA, buildv, stC, oneC, rowMB, intsA, plN, appE, appZ, appC, appNZ, appNC, VwL, srcC, srcZ, srcM, isBoolT, isPtrT, isSliceT, uOk, Value.oneCell', Nat.reducePow, Int.reducePow, Nat.reduceAdd, Nat.reduceMul, Nat.reduceSub, Nat.reduceLT, Nat.reduceLeDiff, Nat.reduceEqDiff, Nat.reduceBEq, Nat.reduceDiv, Nat.reduceMod, ↓reduceIte, reduceCtorEq, Int.reduceToNat, Int.reduceLT, Int.reduceLE, TFStP, SeqQ, BlkQ, LoopQ, BodyQ, hs, k1, FR.out])
      | (refine WP.seq fun K hK => ?_)
      | (refine WP.region (rvc_sound _ _ (Sm.out ?_)))
      | (refine WP.drawK rfl mixed (by decide +kernel) (Sm.out ?_))
      | (refine Ob.mk ?_; focus (first | assumption | omega | decide | trivial | (intro hob; simp only [hob, ZF]; done) | (intros; (repeat' refine And.intro ?_ ?_) <;> first | assumption | omega | trivial | decide) | (intros; simp only [ZE] at *; (repeat' refine And.intro ?_ ?_) <;> first | assumption | omega | trivial)))
      | (refine And.intro (Ob.out ?_) ?_)
      | (refine WP.block ?_)
      | (refine WP.cond rfl (fun hc => ?_) (fun hc => ?_) <;> (try simp only [ZC, reduceCtorEq, ZD] at hc) <;> (try (exact absurd hc (by decide))) <;> (try (exfalso; omega)))
      | ((first | refine WP.skip ?_ | refine WP.exit ?_); simp only [SeqQ, BlkQ, LoopQ, BodyQ, ↓reduceIte, Nat.reduceEqDiff, reduceCtorEq, look, true_and])
      | (refine WP.ret (Sm.out ?_))
      | (first | refine ExG.no (Sm.out ?_) | refine Or.inl (ExG.no (Sm.out ?_)) | refine Or.inl (And.intro (fun hg => absurd hg (by decide)) (ExG.no (Sm.out ?_))))
      | (refine Rt.mk ?_; refine And.intro ?_ ?_ <;> (intro hg; first | exact absurd hg (by decide) | refine Sm.out ?_))
      | (refine Nu.mk ?_; first | (fail_if_success (have := nb1)); intro nb1 | (fail_if_success (have := nb2)); intro nb2 | (fail_if_success (have := nb3)); intro nb3 | (fail_if_success (have := nb4)); intro nb4 | intro nbz)
      | (refine Fr.mk ?_; intro hfr; (first | (have hFRb : _ ≤ _ ∧ _ ≤ _ := And.intro hfr.1 hfr.2.1) | (have hFRb : _ ≤ _ := hfr.1) | skip); replace FR := Sm.mk (And.intro hfr FR.out); clear hfr; refine Sm.out ?_)
      | (refine Two.mk ?_ ?_)
      | (refine Cs.mk ?_; intro hcs; first | exact False.elim hcs | (exfalso; omega) | (refine Sm.out ?_))
      | go_step
      | omega
      | (simp only [maxLen_eq]; omega)
    (refine OutQ.all ?_ ?_; (focus (simp only [resv, ZK, look, loadv, loadn, loadnm, load1, load1m, hget, ↓reduceIte, Nat.reduceEqDiff, Nat.reduceAdd, Nat.reduceMul, Nat.reduceLeDiff, Nat.reduceLT, reduceCtorEq, TFStP, hfin])); (try simp only [resv, resA, Fn, ZK, look, loadv, loadn, loadnm, load1, load1m, hget, ↓reduceIte, Nat.reduceEqDiff, Nat.reduceAdd, Nat.reduceMul, Nat.reduceLeDiff, Nat.reduceLT, reduceCtorEq, TFStP, hfin]); (try simp [resA, Fn, look, hfin]))
  | succ m =>
    have hat := bstr_at (hS ▸ hb.take (m + 1) : By S) (show m < S.length by omega)
    have eg : S.getD m 0 = zs.getD m 0 := by rw [hS]; simp [List.getD_eq_getElem?_getD, List.getElem?_take]
    obtain ⟨d, hd⟩ : ∃ d, d = zs.getD m 0 := ⟨_, rfl⟩
    rw [eg, ← hd] at hat
    have k1 : decide (((m + 1 : Nat) : Int) > 0) = true := decide_eq_true (by omega)
    have e1 : IntKind.i64.wrap (((m + 1 : Nat) : Int) - 1) = (m : Int) := by rw [wrap_i64 (by omega) (by omega)]; omega
    have t1 : ((m : Nat) : Int).toNat = m := by omega
    have ex : (bstr S).extract 0 m = bstr (zs.take m) := by
      rw [bstr_ext, List.drop_zero, hS, List.take_take, show min m (m + 1) = m by omega]
    have i1 : m ≤ m + 1 := by omega
    rw [← hS]
    by_cases hc : d = c
    · have kq : (d == c) = true := beq_iff_eq.2 hc
      have hn : trN zs c zs.length = trN zs c m := by rw [ht, trN_succ, if_pos (by rw [← hd]; exact hc)]
      first | (have FRx := FR; clear FRx) | (have FR : Sm (¬ ((1 : Nat) = 0)) := Sm.mk Nat.one_ne_zero)
      repeat' first
        | (refine Sm.mk ?_; try simp -dsimp only [ZK, rvc, drawF, headN, pureH, stp, dvc, calleeOf, gcall, pev, eff, newB, okd, og, ogs, ogo, ogp, slv, bltv, opd, litv, strip, one, both, putE, St.put, look, gdOf, gdv, picka, pickv, pickw, binv, bini, bins, binb, binp, binq, isSlT, bina, shp, eqCells, unv, convv, nilv, faddv, addp, idxav, idxp, load1, load1m, loadn, loadnm, loadv, hget, hset, hrep, hdel, slicev, bnd, shift1, lenv, capv, IntKind.bits, extractv, fieldv, indexv, min2v, max2v, mkiv, cellsA, fillA, buildv, stC, oneC, rowMB, intsA, plN, appE, appZ, appC, appNZ, appNC, VwL, srcC, srcZ, srcM, isBoolT, isPtrT, isSliceT, uOk, Value.oneCell', Nat.reducePow, Int.reducePow, Nat.reduceAdd, Nat.reduceMul, Nat.reduceSub, Nat.reduceLT, Nat.reduceLeDiff, Nat.reduceEqDiff, Nat.reduceBEq, Nat.reduceDiv, Nat.reduceMod, ↓reduceIte, reduceCtorEq, Int.reduceToNat, Int.reduceLT, Int.reduceLE, TFStP, SeqQ, BlkQ, LoopQ, BodyQ, hs, k1, e1, t1, hat, kq, ex, i1, FR.out])
        | (refine WP.seq fun K hK => ?_)
        | (refine WP.region (rvc_sound _ _ (Sm.out ?_)))
        | (refine WP.drawK rfl mixed (by decide +kernel) (Sm.out ?_))
        | (refine Ob.mk ?_; focus (first | assumption | omega | decide | trivial | (intro hob; simp only [hob, ZF]; done) | (intros; (repeat' refine And.intro ?_ ?_) <;> first | assumption | omega | trivial | decide) | (intros; simp only [ZE] at *; (repeat' refine And.intro ?_ ?_) <;> first | assumption | omega | trivial)))
        | (refine And.intro (Ob.out ?_) ?_)
        | (refine WP.block ?_)
        | (refine WP.cond rfl (fun hc => ?_) (fun hc => ?_) <;> (try simp only [ZC, reduceCtorEq, ZD] at hc) <;> (try (exact absurd hc (by decide))) <;> (try (exfalso; omega)))
        | ((first | refine WP.skip ?_ | refine WP.exit ?_); simp only [SeqQ, BlkQ, LoopQ, BodyQ, ↓reduceIte, Nat.reduceEqDiff, reduceCtorEq, look, true_and])
        | (refine WP.ret (Sm.out ?_))
        | (first | refine ExG.no (Sm.out ?_) | refine Or.inl (ExG.no (Sm.out ?_)) | refine Or.inl (And.intro (fun hg => absurd hg (by decide)) (ExG.no (Sm.out ?_))))
        | (refine Rt.mk ?_; refine And.intro ?_ ?_ <;> (intro hg; first | exact absurd hg (by decide) | refine Sm.out ?_))
        | (refine Nu.mk ?_; first | (fail_if_success (have := nb1)); intro nb1 | (fail_if_success (have := nb2)); intro nb2 | (fail_if_success (have := nb3)); intro nb3 | (fail_if_success (have := nb4)); intro nb4 | intro nbz)
        | (refine Fr.mk ?_; intro hfr; (first | (have hFRb : _ ≤ _ ∧ _ ≤ _ := And.intro hfr.1 hfr.2.1) | (have hFRb : _ ≤ _ := hfr.1) | skip); replace FR := Sm.mk (And.intro hfr FR.out); clear hfr; refine Sm.out ?_)
        | (refine Two.mk ?_ ?_)
        | (refine Cs.mk ?_; intro hcs; first | exact False.elim hcs | (exfalso; omega) | (refine Sm.out ?_))
        | go_step
        | omega
        | (simp only [maxLen_eq]; omega)
      exact ⟨m, ⟨by omega, hn⟩, by omega, (Sub.pick (by simp [pickB, hget, hdel, FR.out]) (by simp [look]))⟩
    · have kq : (d == c) = false := beq_eq_false_iff_ne.2 hc
      have hn : trN zs c zs.length = m + 1 := by rw [ht, trN_succ, if_neg (by rw [← hd]; exact hc)]
      have hfin : zs.take (trN zs c zs.length) = S := by rw [hn, hS]
      first | (have FRx := FR; clear FRx) | (have FR : Sm (¬ ((1 : Nat) = 0)) := Sm.mk Nat.one_ne_zero)
      repeat' first
        | (refine Sm.mk ?_; try simp -dsimp only [ZK, rvc, drawF, headN, pureH, stp, dvc, calleeOf, gcall, pev, eff, newB, okd, og, ogs, ogo, ogp, slv, bltv, opd, litv, strip, one, both, putE, St.put, look, gdOf, gdv, picka, pickv, pickw, binv, bini, bins, binb, binp, binq, isSlT, bina, shp, eqCells, unv, convv, nilv, faddv, addp, idxav, idxp, load1, load1m, loadn, loadnm, loadv, hget, hset, hrep, hdel, slicev, bnd, shift1, lenv, capv, IntKind.bits, extractv, fieldv, indexv, min2v, max2v, mkiv, cellsA, fillA, buildv, stC, oneC, rowMB, intsA, plN, appE, appZ, appC, appNZ, appNC, VwL, srcC, srcZ, srcM, isBoolT, isPtrT, isSliceT, uOk, Value.oneCell', Nat.reducePow, Int.reducePow, Nat.reduceAdd, Nat.reduceMul, Nat.reduceSub, Nat.reduceLT, Nat.reduceLeDiff, Nat.reduceEqDiff, Nat.reduceBEq, Nat.reduceDiv, Nat.reduceMod, ↓reduceIte, reduceCtorEq, Int.reduceToNat, Int.reduceLT, Int.reduceLE, TFStP, SeqQ, BlkQ, LoopQ, BodyQ, hs, k1, e1, t1, hat, kq, i1, FR.out])
        | (refine WP.seq fun K hK => ?_)
        | (refine WP.region (rvc_sound _ _ (Sm.out ?_)))
        | (refine WP.drawK rfl mixed (by decide +kernel) (Sm.out ?_))
        | (refine Ob.mk ?_; focus (first | assumption | omega | decide | trivial | (intro hob; simp only [hob, ZF]; done) | (intros; (repeat' refine And.intro ?_ ?_) <;> first | assumption | omega | trivial | decide) | (intros; simp only [ZE] at *; (repeat' refine And.intro ?_ ?_) <;> first | assumption | omega | trivial)))
        | (refine And.intro (Ob.out ?_) ?_)
        | (refine WP.block ?_)
        | (refine WP.cond rfl (fun hc => ?_) (fun hc => ?_) <;> (try simp only [ZC, reduceCtorEq, ZD] at hc) <;> (try (exact absurd hc (by decide))) <;> (try (exfalso; omega)))
        | ((first | refine WP.skip ?_ | refine WP.exit ?_); simp only [SeqQ, BlkQ, LoopQ, BodyQ, ↓reduceIte, Nat.reduceEqDiff, reduceCtorEq, look, true_and])
        | (refine WP.ret (Sm.out ?_))
        | (first | refine ExG.no (Sm.out ?_) | refine Or.inl (ExG.no (Sm.out ?_)) | refine Or.inl (And.intro (fun hg => absurd hg (by decide)) (ExG.no (Sm.out ?_))))
        | (refine Rt.mk ?_; refine And.intro ?_ ?_ <;> (intro hg; first | exact absurd hg (by decide) | refine Sm.out ?_))
        | (refine Nu.mk ?_; first | (fail_if_success (have := nb1)); intro nb1 | (fail_if_success (have := nb2)); intro nb2 | (fail_if_success (have := nb3)); intro nb3 | (fail_if_success (have := nb4)); intro nb4 | intro nbz)
        | (refine Fr.mk ?_; intro hfr; (first | (have hFRb : _ ≤ _ ∧ _ ≤ _ := And.intro hfr.1 hfr.2.1) | (have hFRb : _ ≤ _ := hfr.1) | skip); replace FR := Sm.mk (And.intro hfr FR.out); clear hfr; refine Sm.out ?_)
        | (refine Two.mk ?_ ?_)
        | (refine Cs.mk ?_; intro hcs; first | exact False.elim hcs | (exfalso; omega) | (refine Sm.out ?_))
        | go_step
        | omega
        | (simp only [maxLen_eq]; omega)
      (refine OutQ.all ?_ ?_; (focus (simp only [resv, ZK, look, loadv, loadn, loadnm, load1, load1m, hget, ↓reduceIte, Nat.reduceEqDiff, Nat.reduceAdd, Nat.reduceMul, Nat.reduceLeDiff, Nat.reduceLT, reduceCtorEq, TFStP, hfin])); (try simp only [resv, resA, Fn, ZK, look, loadv, loadn, loadnm, load1, load1m, hget, ↓reduceIte, Nat.reduceEqDiff, Nat.reduceAdd, Nat.reduceMul, Nat.reduceLeDiff, Nat.reduceLT, reduceCtorEq, TFStP, hfin]); (try simp [resA, Fn, look, hfin]))
theorem trim_ct (zs : List Int) (hb : By zs) (hl : zs.length ≤ 1000) (h0 : 0 < zs.length) : ACt Tryd.prog 27 [stz zs, .lit (.string ⟨#[48]⟩)] [] (Fn (stz (zs.take (trN zs 48 zs.length)))) := by
  have cT := trimb_ct zs hb hl 48
  obtain ⟨R, hR⟩ : ∃ R, R = zs.take (trN zs 48 zs.length) := ⟨_, rfl⟩
  rw [← hR] at cT ⊢
  refine ACt.intro Tryd.func27 rfl (by kernel_rfl) (by simp [Tryd.ntmps27]) (fun cx => ?_)
  simp only [argE, Tryd.ntmps27, Tryd.results27]
  have hs := bstr_size zs
  have k1 : ((bstr zs).toList == (⟨#[]⟩ : ByteArray).toList) = false := by
    first | rw [beq_toListBytes] | rw [← beq_toListBytes]
    cases zs with
    | nil => simp at h0
    | cons a r => rfl
  have k2 : ((⟨#[48]⟩ : ByteArray).toList == (⟨#[]⟩ : ByteArray).toList) = false := by
    first | rw [beq_toListBytes] | rw [← beq_toListBytes]
    rfl
  have z1 : (⟨#[48]⟩ : ByteArray).size = 1 := rfl
  have z2 : ((⟨#[48]⟩ : ByteArray).data.toList.getD 0 0).toNat = 48 := rfl
  have z3 : ((48 : Nat) : Int) = 48 := rfl
  first | (have FRx := FR; clear FRx) | (have FR : Sm (¬ ((1 : Nat) = 0)) := Sm.mk Nat.one_ne_zero)
  repeat' first
    | (refine Sm.mk ?_; try simp -dsimp only [ZK, rvc, drawF, headN, pureH, stp, dvc, calleeOf, gcall, pev, eff, newB, okd, og, ogs, ogo, ogp, slv, bltv, opd, litv, strip, one, both, putE, St.put, look, gdOf, gdv, picka, pickv, pickw, binv, bini, bins, binb, binp, binq, isSlT, bina, shp, eqCells, unv, convv, nilv, faddv, addp, idxav, idxp, load1, load1m, loadn, loadnm, loadv, hget, hset, hrep, hdel, slicev, bnd, shift1, lenv, capv, IntKind.bits, extractv, fieldv, indexv, min2v, max2v, mkiv, cellsA, fillA, buildv, stC, oneC, rowMB, intsA, plN, appE, appZ, appC, appNZ, appNC, VwL, srcC, srcZ, srcM, isBoolT, isPtrT, isSliceT, uOk, Value.oneCell', Nat.reducePow, Int.reducePow, Nat.reduceAdd, Nat.reduceMul, Nat.reduceSub, Nat.reduceLT, Nat.reduceLeDiff, Nat.reduceEqDiff, Nat.reduceBEq, Nat.reduceDiv, Nat.reduceMod, ↓reduceIte, reduceCtorEq, Int.reduceToNat, Int.reduceLT, Int.reduceLE, TFStP, SeqQ, BlkQ, LoopQ, BodyQ, hs, k1, k2, z1, z2, z3, FR.out])
    | (first | refine CallV.fn (cT) (Sm.out ?_) | refine ExF.mk (cT) (Sm.out ?_) | refine ExG.mk (fun _ => cT) (Sm.out ?_) | refine ExG.mkJ (fun _ => cT) (Sm.out ?_) | refine ExG.mkI (Ob.out ?_) (fun _ => cT) (Sm.out ?_))
    | (refine WP.seq fun K hK => ?_)
    | (refine WP.region (rvc_sound _ _ (Sm.out ?_)))
    | (refine WP.drawK rfl mixed (by decide +kernel) (Sm.out ?_))
    | (refine Ob.mk ?_; focus (first | assumption | omega | decide | trivial | (intro hob; simp only [hob, ZF]; done) | (intros; (repeat' refine And.intro ?_ ?_) <;> first | assumption | omega | trivial | decide) | (intros; simp only [ZE] at *; (repeat' refine And.intro ?_ ?_) <;> first | assumption | omega | trivial)))
    | (refine And.intro (Ob.out ?_) ?_)
    | (refine WP.block ?_)
    | (refine WP.cond rfl (fun hc => ?_) (fun hc => ?_) <;> (try simp only [ZC, reduceCtorEq, ZD] at hc) <;> (try (exact absurd hc (by decide))) <;> (try (exfalso; omega)))
    | ((first | refine WP.skip ?_ | refine WP.exit ?_); simp only [SeqQ, BlkQ, LoopQ, BodyQ, ↓reduceIte, Nat.reduceEqDiff, reduceCtorEq, look, true_and])
    | (refine WP.ret (Sm.out ?_))
    | (first | refine ExG.no (Sm.out ?_) | refine Or.inl (ExG.no (Sm.out ?_)) | refine Or.inl (And.intro (fun hg => absurd hg (by decide)) (ExG.no (Sm.out ?_))))
    | (refine Rt.mk ?_; refine And.intro ?_ ?_ <;> (intro hg; first | exact absurd hg (by decide) | refine Sm.out ?_))
    | (refine Nu.mk ?_; first | (fail_if_success (have := nb1)); intro nb1 | (fail_if_success (have := nb2)); intro nb2 | (fail_if_success (have := nb3)); intro nb3 | (fail_if_success (have := nb4)); intro nb4 | intro nbz)
    | (refine Fr.mk ?_; intro hfr; (first | (have hFRb : _ ≤ _ ∧ _ ≤ _ := And.intro hfr.1 hfr.2.1) | (have hFRb : _ ≤ _ := hfr.1) | skip); replace FR := Sm.mk (And.intro hfr FR.out); clear hfr; refine Sm.out ?_)
    | (refine Two.mk ?_ ?_)
    | (refine Cs.mk ?_; intro hcs; first | exact False.elim hcs | (exfalso; omega) | (refine Sm.out ?_))
    | go_step
    | omega
    | (simp only [maxLen_eq]; omega)
  (refine OutQ.all ?_ ?_; (focus (simp only [resv, ZK, look, loadv, loadn, loadnm, load1, load1m, hget, ↓reduceIte, Nat.reduceEqDiff, Nat.reduceAdd, Nat.reduceMul, Nat.reduceLeDiff, Nat.reduceLT, reduceCtorEq, TFStP])); (try simp only [resv, resA, Fn, ZK, look, loadv, loadn, loadnm, load1, load1m, hget, ↓reduceIte, Nat.reduceEqDiff, Nat.reduceAdd, Nat.reduceMul, Nat.reduceLeDiff, Nat.reduceLT, reduceCtorEq, TFStP]); (try simp [resA, Fn, look]))
theorem right_ct (p : Int) : ACt Tryd.prog 17 [iv .u32 p] [] (Fn (bv (decide (p ≤ 1000000)))) := by
  refine ACt.intro Tryd.func17 rfl (by kernel_rfl) (by simp [Tryd.ntmps17]) (fun cx => ?_)
  simp only [argE, Tryd.ntmps17, Tryd.results17]
  first | (have FRx := FR; clear FRx) | (have FR : Sm (¬ ((1 : Nat) = 0)) := Sm.mk Nat.one_ne_zero)
  repeat' first
    | (refine Sm.mk ?_; try simp -dsimp only [ZK, rvc, drawF, headN, pureH, stp, dvc, calleeOf, gcall, pev, eff, newB, okd, og, ogs, ogo, ogp, slv, bltv, opd, litv, strip, one, both, putE, St.put, look, gdOf, gdv, picka, pickv, pickw, binv, bini, bins, binb, binp, binq, isSlT, bina, shp, eqCells, unv, convv, nilv, faddv, addp, idxav, idxp, load1, load1m, loadn, loadnm, loadv, hget, hset, hrep, hdel, slicev, bnd, shift1, lenv, capv, IntKind.bits, extractv, fieldv, indexv, min2v, max2v, mkiv, cellsA, fillA, buildv, stC, oneC, rowMB, intsA, plN, appE, appZ, appC, appNZ, appNC, VwL, srcC, srcZ, srcM, isBoolT, isPtrT, isSliceT, uOk, Value.oneCell', Nat.reducePow, Int.reducePow, Nat.reduceAdd, Nat.reduceMul, Nat.reduceSub, Nat.reduceLT, Nat.reduceLeDiff, Nat.reduceEqDiff, Nat.reduceBEq, Nat.reduceDiv, Nat.reduceMod, ↓reduceIte, reduceCtorEq, Int.reduceToNat, Int.reduceLT, Int.reduceLE, TFStP, SeqQ, BlkQ, LoopQ, BodyQ, FR.out])
    | (refine WP.seq fun K hK => ?_)
    | (refine WP.region (rvc_sound _ _ (Sm.out ?_)))
    | (refine WP.drawK rfl mixed (by decide +kernel) (Sm.out ?_))
    | (refine Ob.mk ?_; focus (first | assumption | omega | decide | trivial | (intro hob; simp only [hob, ZF]; done) | (intros; (repeat' refine And.intro ?_ ?_) <;> first | assumption | omega | trivial | decide) | (intros; simp only [ZE] at *; (repeat' refine And.intro ?_ ?_) <;> first | assumption | omega | trivial)))
    | (refine And.intro (Ob.out ?_) ?_)
    | (refine WP.block ?_)
    | (refine WP.cond rfl (fun hc => ?_) (fun hc => ?_) <;> (try simp only [ZC, reduceCtorEq, ZD] at hc) <;> (try (exact absurd hc (by decide))) <;> (try (exfalso; omega)))
    | ((first | refine WP.skip ?_ | refine WP.exit ?_); simp only [SeqQ, BlkQ, LoopQ, BodyQ, ↓reduceIte, Nat.reduceEqDiff, reduceCtorEq, look, true_and])
    | (refine WP.ret (Sm.out ?_))
    | (first | refine ExG.no (Sm.out ?_) | refine Or.inl (ExG.no (Sm.out ?_)) | refine Or.inl (And.intro (fun hg => absurd hg (by decide)) (ExG.no (Sm.out ?_))))
    | (refine Rt.mk ?_; refine And.intro ?_ ?_ <;> (intro hg; first | exact absurd hg (by decide) | refine Sm.out ?_))
    | (refine Nu.mk ?_; first | (fail_if_success (have := nb1)); intro nb1 | (fail_if_success (have := nb2)); intro nb2 | (fail_if_success (have := nb3)); intro nb3 | (fail_if_success (have := nb4)); intro nb4 | intro nbz)
    | (refine Fr.mk ?_; intro hfr; (first | (have hFRb : _ ≤ _ ∧ _ ≤ _ := And.intro hfr.1 hfr.2.1) | (have hFRb : _ ≤ _ := hfr.1) | skip); replace FR := Sm.mk (And.intro hfr FR.out); clear hfr; refine Sm.out ?_)
    | (refine Two.mk ?_ ?_)
    | (refine Cs.mk ?_; intro hcs; first | exact False.elim hcs | (exfalso; omega) | (refine Sm.out ?_))
    | (refine OutQ.all ?_ ?_; (focus (simp only [resv, ZK, look, loadv, loadn, loadnm, load1, load1m, hget, ↓reduceIte, Nat.reduceEqDiff, Nat.reduceAdd, Nat.reduceMul, Nat.reduceLeDiff, Nat.reduceLT, reduceCtorEq, TFStP, FR.out])); (try simp only [resv, resA, Fn, ZK, look, loadv, loadn, loadnm, load1, load1m, hget, ↓reduceIte, Nat.reduceEqDiff, Nat.reduceAdd, Nat.reduceMul, Nat.reduceLeDiff, Nat.reduceLT, reduceCtorEq, TFStP, FR.out]); (try simp [resA, Fn, look, FR.out]); done)
    | go_step
    | omega
    | (simp only [maxLen_eq]; omega)
theorem dot_str : (⟨#[46]⟩ : ByteArray) = bstr [46] := rfl
theorem pc_str : (⟨#[37]⟩ : ByteArray) = bstr [37] := rfl
def tr4 (y : Nat) : List Int := (dg4 y).take (trN (dg4 y) 48 4)
theorem dg4_by {y : Nat} (h : y ≤ 9999) : By (dg4 y) := fun i hi => by
  have h4 : (dg4 y).length = 4 := rfl
  rcases (by omega : i = 0 ∨ i = 1 ∨ i = 2 ∨ i = 3) with rfl | rfl | rfl | rfl <;> simp [dg4] <;> omega
set_option maxRecDepth 8000 in
set_option maxHeartbeats 2000000 in
theorem print_pt (n0 : Nat) (q y : Nat) (hq : q < 100) (hy : y ≤ 9999) (hy0 : 0 < y) : ACt Tryd.prog 18 [iv .u32 ((q * 10000 + y : Nat) : Int)] (GG n0) (fun r F' => r = stz (dgs q ++ ([46] ++ tr4 y) ++ [37]) ∧ F' = GG n0) := by
  have c1 := itoa_of n0 _ _ (format_small n0 q hq)
  have c2 := itoa_of n0 _ _ (format_five n0 y hy)
  have cT := trim_ct (dg4 y) (dg4_by hy) (by show 4 ≤ 1000; decide) (by show 0 < 4; decide)
  rw [show (dg4 y).take (trN (dg4 y) 48 (dg4 y).length) = tr4 y from rfl] at cT
  have cR := right_ct ((q * 10000 + y : Nat) : Int)
  rw [decide_eq_true (by omega)] at cR
  obtain ⟨p, hp⟩ : ∃ p, p = q * 10000 + y := ⟨_, rfl⟩
  rw [← hp] at cR ⊢
  have r1 : (p : Int).tdiv 10000 = (q : Int) := by rw [Int.tdiv_eq_ediv_of_nonneg (by omega)]; omega
  have r2 : (p : Int).tmod 10000 = (y : Int) := by rw [Int.tmod_eq_emod_of_nonneg (by omega)]; omega
  have w1 : IntKind.u32.wrap (q : Int) = (q : Int) := wrap_u32 (by omega) (by omega)
  have w2 : IntKind.u32.wrap (y : Int) = (y : Int) := wrap_u32 (by omega) (by omega)
  have w3 : IntKind.i64.wrap (q : Int) = (q : Int) := wrap_i64 (by omega) (by omega)
  have w4 : IntKind.u32.wrap (10000 + (y : Int)) = ((10000 + y : Nat) : Int) := by rw [wrap_u32 (by omega) (by omega)]; omega
  have w5 : IntKind.i64.wrap ((10000 + y : Nat) : Int) = ((10000 + y : Nat) : Int) := wrap_i64 (by omega) (by omega)
  have k2 : decide ((y : Int) > 0) = true := by simp; omega
  have h5 : (bstr (dg5 y)).size = 5 := by rw [bstr_size]; rfl
  have ex : (bstr (dg5 y)).extract 1 5 = bstr (dg4 y) := by rw [bstr_ext]; rfl
  obtain ⟨A, hA⟩ : ∃ A, A = dgs q := ⟨_, rfl⟩
  obtain ⟨B, hB⟩ : ∃ B, B = tr4 y := ⟨_, rfl⟩
  obtain ⟨C, hC⟩ : ∃ C, C = dg5 y := ⟨_, rfl⟩
  obtain ⟨D, hD⟩ : ∃ D, D = dg4 y := ⟨_, rfl⟩
  have lA : A.length ≤ 2 := by rw [hA]; unfold dgs; split <;> simp
  have lB : B.length ≤ 4 := by rw [hB]; unfold tr4; rw [List.length_take]; exact Nat.min_le_right _ _
  rw [← hA] at c1 ⊢
  rw [← hC] at c2 h5 ex
  rw [← hD] at ex cT
  rw [← hB] at cT ⊢
  have s1 : ([46] ++ B).length ≤ 5 := by simp; omega
  have s2 : (A ++ ([46] ++ B)).length ≤ 7 := by rw [List.length_append]; omega
  have j1 : ([46] : List Int).length + B.length ≤ 9223372036854775807 := by simp; omega
  have j2 : A.length + ([46] ++ B).length ≤ 9223372036854775807 := by omega
  have j3 : (A ++ ([46] ++ B)).length + ([37] : List Int).length ≤ 9223372036854775807 := by simp only [List.length_cons, List.length_nil]; omega
  refine ACt.intro Tryd.func18 rfl (by kernel_rfl) (by simp [Tryd.ntmps18]) (fun cx => ?_)
  simp only [argE, Tryd.ntmps18, Tryd.results18, GG, p10] at c1 c2 ⊢
  first | (have FRx := FR; clear FRx) | (have FR : Sm (¬ ((1 : Nat) = 0)) := Sm.mk Nat.one_ne_zero)
  repeat' first
    | (refine Sm.mk ?_; try simp -dsimp only [ZK, rvc, drawF, headN, pureH, stp, dvc, calleeOf, gcall, pev, eff, newB, okd, og, ogs, ogo, ogp, slv, bltv, opd, litv, strip, one, both, putE, St.put, look, gdOf, gdv, picka, pickv, pickw, binv, bini, bins, binb, binp, binq, isSlT, bina, shp, eqCells, unv, convv, nilv, faddv, addp, idxav, idxp, load1, load1m, loadn, loadnm, loadv, hget, hset, hrep, hdel, slicev, bnd, shift1, lenv, capv, IntKind.bits, extractv, fieldv, indexv, min2v, max2v, mkiv, cellsA, fillA, buildv, stC, oneC, rowMB, intsA, plN, appE, appZ, appC, appNZ, appNC, VwL, srcC, srcZ, srcM, isBoolT, isPtrT, isSliceT, uOk, Value.oneCell', Nat.reducePow, Int.reducePow, Nat.reduceAdd, Nat.reduceMul, Nat.reduceSub, Nat.reduceLT, Nat.reduceLeDiff, Nat.reduceEqDiff, Nat.reduceBEq, Nat.reduceDiv, Nat.reduceMod, ↓reduceIte, reduceCtorEq, Int.reduceToNat, Int.reduceLT, Int.reduceLE, TFStP, SeqQ, BlkQ, LoopQ, BodyQ, r1, r2, w1, w2, w3, w4, w5, k2, h5, ex, dot_str, pc_str, bstr_app, bstr_size, j1, j2, j3, FR.out])
    | (first | refine CallV.fn (cR) (Sm.out ?_) | refine ExF.mk (cR) (Sm.out ?_) | refine ExG.mk (fun _ => cR) (Sm.out ?_) | refine ExG.mkJ (fun _ => cR) (Sm.out ?_) | refine ExG.mkI (Ob.out ?_) (fun _ => cR) (Sm.out ?_))
    | (refine CallV.upd (by simp only [hget, ↓reduceIte, FR.out, r1, r2, w1, w2, w3, w4, w5, k2, h5, ex, dot_str, pc_str, bstr_app, bstr_size, j1, j2, j3]; first | done | rfl) (c1) (Sm.out ?_))
    | (refine CallV.upd (by simp only [hget, ↓reduceIte, FR.out, r1, r2, w1, w2, w3, w4, w5, k2, h5, ex, dot_str, pc_str, bstr_app, bstr_size, j1, j2, j3]; first | done | rfl) (c2) (Sm.out ?_))
    | (first | refine CallV.fn (cT) (Sm.out ?_) | refine ExF.mk (cT) (Sm.out ?_) | refine ExG.mk (fun _ => cT) (Sm.out ?_) | refine ExG.mkJ (fun _ => cT) (Sm.out ?_) | refine ExG.mkI (Ob.out ?_) (fun _ => cT) (Sm.out ?_))
    | (refine WP.seq fun K hK => ?_)
    | (refine WP.region (rvc_sound _ _ (Sm.out ?_)))
    | (refine WP.drawK rfl mixed (by decide +kernel) (Sm.out ?_))
    | (refine Ob.mk ?_; focus (first | assumption | omega | decide | trivial | (intro hob; simp only [hob, ZF]; done) | (intros; (repeat' refine And.intro ?_ ?_) <;> first | assumption | omega | trivial | decide) | (intros; simp only [ZE] at *; (repeat' refine And.intro ?_ ?_) <;> first | assumption | omega | trivial)))
    | (refine And.intro (Ob.out ?_) ?_)
    | (refine WP.block ?_)
    | (refine WP.cond rfl (fun hc => ?_) (fun hc => ?_) <;> (try simp only [ZC, reduceCtorEq, ZD] at hc) <;> (try (exact absurd hc (by decide))) <;> (try (exfalso; omega)))
    | ((first | refine WP.skip ?_ | refine WP.exit ?_); simp only [SeqQ, BlkQ, LoopQ, BodyQ, ↓reduceIte, Nat.reduceEqDiff, reduceCtorEq, look, true_and])
    | (refine WP.ret (Sm.out ?_))
    | (first | refine ExG.no (Sm.out ?_) | refine Or.inl (ExG.no (Sm.out ?_)) | refine Or.inl (And.intro (fun hg => absurd hg (by decide)) (ExG.no (Sm.out ?_))))
    | (refine Rt.mk ?_; refine And.intro ?_ ?_ <;> (intro hg; first | exact absurd hg (by decide) | refine Sm.out ?_))
    | (refine Nu.mk ?_; first | (fail_if_success (have := nb1)); intro nb1 | (fail_if_success (have := nb2)); intro nb2 | (fail_if_success (have := nb3)); intro nb3 | (fail_if_success (have := nb4)); intro nb4 | intro nbz)
    | (refine Fr.mk ?_; intro hfr; (first | (have hFRb : _ ≤ _ ∧ _ ≤ _ := And.intro hfr.1 hfr.2.1) | (have hFRb : _ ≤ _ := hfr.1) | skip); replace FR := Sm.mk (And.intro hfr FR.out); clear hfr; refine Sm.out ?_)
    | (refine Two.mk ?_ ?_)
    | (refine Cs.mk ?_; intro hcs; first | exact False.elim hcs | (exfalso; omega) | (refine Sm.out ?_))
    | go_step
    | omega
    | (simp only [maxLen_eq]; omega)
  (refine OutQ.upd (by simp only [resv, ZK, look, loadv, loadn, loadnm, load1, load1m, hget, ↓reduceIte, Nat.reduceEqDiff, Nat.reduceAdd, Nat.reduceMul, Nat.reduceLeDiff, Nat.reduceLT, reduceCtorEq, TFStP, FR.out]) (by simp only [resv, resA, ZK, look, loadv, loadn, loadnm, load1, load1m, hget, ↓reduceIte, Nat.reduceEqDiff, Nat.reduceAdd, Nat.reduceMul, Nat.reduceLeDiff, Nat.reduceLT, reduceCtorEq, TFStP, FR.out]; first | done | rfl) (by simp only [hget, ↓reduceIte, if_true, if_false, FR.out]; first | done | rfl) ?_ <;> first | exact rfl | (simp only [ZK, look, loadv, loadn, loadnm, load1, load1m, hget, ↓reduceIte, Nat.reduceEqDiff, Nat.reduceAdd, Nat.reduceMul, Nat.reduceLeDiff, Nat.reduceLT, reduceCtorEq, TFStP, FR.out]; done) | skip)
theorem awake_ct (n0 : Nat) : ACt Tryd.prog 6 [] (GG n0) (fun r F' => r = bv true ∧ F' = GG n0) := by
  have c1 := print_pt n0 99 9000 (by decide) (by decide) (by decide)
  have c2 := print_pt n0 1 2345 (by decide) (by decide) (by decide)
  rw [show (99 * 10000 + 9000 : Nat) = 999000 from rfl, show stz (dgs 99 ++ ([46] ++ tr4 9000) ++ [37]) = .lit (.string ⟨#[57, 57, 46, 57, 37]⟩) from rfl] at c1
  rw [show (1 * 10000 + 2345 : Nat) = 12345 from rfl, show stz (dgs 1 ++ ([46] ++ tr4 2345) ++ [37]) = .lit (.string ⟨#[49, 46, 50, 51, 52, 53, 37]⟩) from rfl] at c2
  have c1 : ACt Tryd.prog 18 [iv .u32 999000] (GG n0) _ := c1
  have c2 : ACt Tryd.prog 18 [iv .u32 12345] (GG n0) _ := c2
  have y1 : ∀ x : List UInt8, (x == x) = true := fun x => beq_self_eq_true x
  refine ACt.intro Tryd.func6 rfl (by kernel_rfl) (by simp [Tryd.ntmps6]) (fun cx => ?_)
  simp only [argE, Tryd.ntmps6, Tryd.results6, GG, p10] at c1 c2 ⊢
  first | (have FRx := FR; clear FRx) | (have FR : Sm (¬ ((1 : Nat) = 0)) := Sm.mk Nat.one_ne_zero)
  repeat' first
    | (refine Sm.mk ?_; try simp -dsimp only [ZK, rvc, drawF, headN, pureH, stp, dvc, calleeOf, gcall, pev, eff, newB, okd, og, ogs, ogo, ogp, slv, bltv, opd, litv, strip, one, both, putE, St.put, look, gdOf, gdv, picka, pickv, pickw, binv, bini, bins, binb, binp, binq, isSlT, bina, shp, eqCells, unv, convv, nilv, faddv, addp, idxav, idxp, load1, load1m, loadn, loadnm, loadv, hget, hset, hrep, hdel, slicev, bnd, shift1, lenv, capv, IntKind.bits, extractv, fieldv, indexv, min2v, max2v, mkiv, cellsA, fillA, buildv, stC, oneC, rowMB, intsA, plN, appE, appZ, appC, appNZ, appNC, VwL, srcC, srcZ, srcM, isBoolT, isPtrT, isSliceT, uOk, Value.oneCell', Nat.reducePow, Int.reducePow, Nat.reduceAdd, Nat.reduceMul, Nat.reduceSub, Nat.reduceLT, Nat.reduceLeDiff, Nat.reduceEqDiff, Nat.reduceBEq, Nat.reduceDiv, Nat.reduceMod, ↓reduceIte, reduceCtorEq, Int.reduceToNat, Int.reduceLT, Int.reduceLE, TFStP, SeqQ, BlkQ, LoopQ, BodyQ, y1, FR.out])
    | (refine CallV.updM (c1) (perm1 (by simp only [hget, hdel, ↓reduceIte, FR.out, y1]; first | done | rfl)) (Sm.out ?_))
    | ((first | refine ExF.up ?_ (c1) (Sm.out ?_) | refine ExG.up ?_ (fun _ => c1) (Sm.out ?_) | refine ExG.upJ ?_ (fun _ => c1) (Sm.out ?_) | refine ExG.upI ?_ (fun _ => c1) (Ob.out ?_) (Sm.out ?_)); focus (exact ⟨_, (perm1 (by simp only [hget, hdel, ↓reduceIte, FR.out, y1]; first | done | rfl))⟩))
    | (refine CallV.updM (c2) (perm1 (by simp only [hget, hdel, ↓reduceIte, FR.out, y1]; first | done | rfl)) (Sm.out ?_))
    | ((first | refine ExF.up ?_ (c2) (Sm.out ?_) | refine ExG.up ?_ (fun _ => c2) (Sm.out ?_) | refine ExG.upJ ?_ (fun _ => c2) (Sm.out ?_) | refine ExG.upI ?_ (fun _ => c2) (Ob.out ?_) (Sm.out ?_)); focus (exact ⟨_, (perm1 (by simp only [hget, hdel, ↓reduceIte, FR.out, y1]; first | done | rfl))⟩))
    | (refine WP.seq fun K hK => ?_)
    | (refine WP.region (rvc_sound _ _ (Sm.out ?_)))
    | (refine WP.drawK rfl mixed (by decide +kernel) (Sm.out ?_))
    | (refine Ob.mk ?_; focus (first | assumption | omega | decide | trivial | (intro hob; simp only [hob, ZF]; done) | (intros; (repeat' refine And.intro ?_ ?_) <;> first | assumption | omega | trivial | decide) | (intros; simp only [ZE] at *; (repeat' refine And.intro ?_ ?_) <;> first | assumption | omega | trivial)))
    | (refine And.intro (Ob.out ?_) ?_)
    | (refine WP.block ?_)
    | (refine WP.cond rfl (fun hc => ?_) (fun hc => ?_) <;> (try simp only [ZC, reduceCtorEq, ZD] at hc) <;> (try (exact absurd hc (by decide))) <;> (try (exfalso; omega)))
    | ((first | refine WP.skip ?_ | refine WP.exit ?_); simp only [SeqQ, BlkQ, LoopQ, BodyQ, ↓reduceIte, Nat.reduceEqDiff, reduceCtorEq, look, true_and])
    | (refine WP.ret (Sm.out ?_))
    | (first | refine ExG.no (Sm.out ?_) | refine Or.inl (ExG.no (Sm.out ?_)) | refine Or.inl (And.intro (fun hg => absurd hg (by decide)) (ExG.no (Sm.out ?_))))
    | (refine Rt.mk ?_; refine And.intro ?_ ?_ <;> (intro hg; first | exact absurd hg (by decide) | refine Sm.out ?_))
    | (refine Nu.mk ?_; first | (fail_if_success (have := nb1)); intro nb1 | (fail_if_success (have := nb2)); intro nb2 | (fail_if_success (have := nb3)); intro nb3 | (fail_if_success (have := nb4)); intro nb4 | intro nbz)
    | (refine Fr.mk ?_; intro hfr; (first | (have hFRb : _ ≤ _ ∧ _ ≤ _ := And.intro hfr.1 hfr.2.1) | (have hFRb : _ ≤ _ := hfr.1) | skip); replace FR := Sm.mk (And.intro hfr FR.out); clear hfr; refine Sm.out ?_)
    | (refine Two.mk ?_ ?_)
    | (refine Cs.mk ?_; intro hcs; first | exact False.elim hcs | (exfalso; omega) | (refine Sm.out ?_))
    | go_step
    | omega
    | (simp only [maxLen_eq]; omega)
  (refine OutQ.upd (by simp only [resv, ZK, look, loadv, loadn, loadnm, load1, load1m, hget, ↓reduceIte, Nat.reduceEqDiff, Nat.reduceAdd, Nat.reduceMul, Nat.reduceLeDiff, Nat.reduceLT, reduceCtorEq, TFStP, FR.out]) (by simp only [resv, resA, ZK, look, loadv, loadn, loadnm, load1, load1m, hget, ↓reduceIte, Nat.reduceEqDiff, Nat.reduceAdd, Nat.reduceMul, Nat.reduceLeDiff, Nat.reduceLT, reduceCtorEq, TFStP, FR.out]; first | done | rfl) (by simp only [hget, ↓reduceIte, if_true, if_false, FR.out]; first | done | rfl) ?_ <;> first | exact rfl | (simp only [ZK, look, loadv, loadn, loadnm, load1, load1m, hget, ↓reduceIte, Nat.reduceEqDiff, Nat.reduceAdd, Nat.reduceMul, Nat.reduceLeDiff, Nat.reduceLT, reduceCtorEq, TFStP, FR.out]; done) | skip)
end Go.Proofs.YtocfaghflhgeeaaDoor
