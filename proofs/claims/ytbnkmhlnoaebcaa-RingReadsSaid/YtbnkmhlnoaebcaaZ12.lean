/-
  The walks and the laws that the statement leans on, part 12.
-/
import Derived.Test.YtbnkmhlnoaebcaaZ11
namespace Go.Proofs.Ytbnkmhlnoaebcaa
open Go Wi
set_option linter.unusedVariables false
set_option linter.unusedSimpArgs false
theorem TFRhH : (((((((type_of% tyc0) ∧ (type_of% tyc2)) ∧ ((type_of% zmb2) ∧ (type_of% tyc3))) ∧ (((type_of% zmb3) ∧ (type_of% tyc4)) ∧ ((type_of% zmb4) ∧ (type_of% tyc23)))) ∧ ((((type_of% zmb23) ∧ (type_of% tyc26)) ∧ ((type_of% mth26_30) ∧ (type_of% mth26_39))) ∧ (((type_of% mth26_38) ∧ (type_of% con26)) ∧ ((type_of% zmb26) ∧ (type_of% tyc27))))) ∧ (((((type_of% tyc32) ∧ (type_of% elt32)) ∧ ((type_of% mkz32) ∧ (type_of% mkc32))) ∧ (((type_of% apT32) ∧ (type_of% elk32)) ∧ ((type_of% zmb32) ∧ (type_of% tyc41)))) ∧ ((((type_of% zmb41) ∧ (type_of% tyc43)) ∧ ((type_of% foff43_0) ∧ (type_of% fpart43_0))) ∧ (((type_of% foff43_1) ∧ (type_of% fpart43_1)) ∧ ((type_of% fe43) ∧ ((type_of% zmb43) ∧ (type_of% bldT43))))))) ∧ ((((((type_of% tyc54) ∧ (type_of% mth54_53)) ∧ ((type_of% mth54_50) ∧ (type_of% mth54_54))) ∧ (((type_of% con54) ∧ (type_of% zmb54)) ∧ ((type_of% tyc64) ∧ (type_of% foff64_0)))) ∧ ((((type_of% fpart64_0) ∧ (type_of% foff64_1)) ∧ ((type_of% fpart64_1) ∧ (type_of% foff64_2))) ∧ (((type_of% fpart64_2) ∧ (type_of% foff64_3)) ∧ ((type_of% fpart64_3) ∧ ((type_of% foff64_4) ∧ (type_of% fpart64_4)))))) ∧ (((((type_of% zmb64) ∧ (type_of% bldT64)) ∧ ((type_of% tyc65) ∧ (type_of% zmb65))) ∧ (((type_of% Try.underlying0) ∧ (type_of% Try.underlying2)) ∧ ((type_of% Try.underlying3) ∧ (type_of% Try.underlying4)))) ∧ ((((type_of% Try.underlying23) ∧ (type_of% Try.underlying26)) ∧ ((type_of% Try.underlying27) ∧ (type_of% Try.underlying32))) ∧ (((type_of% Try.underlying41) ∧ (type_of% Try.underlying43)) ∧ ((type_of% Try.underlying54) ∧ ((type_of% Try.underlying64) ∧ (type_of% Try.underlying65)))))))) :=
  ⟨⟨⟨⟨⟨⟨tyc0, tyc2⟩, ⟨zmb2, tyc3⟩⟩, ⟨⟨zmb3, tyc4⟩, ⟨zmb4, tyc23⟩⟩⟩, ⟨⟨⟨zmb23, tyc26⟩, ⟨mth26_30, mth26_39⟩⟩, ⟨⟨mth26_38, con26⟩, ⟨zmb26, tyc27⟩⟩⟩⟩, ⟨⟨⟨⟨tyc32, elt32⟩, ⟨mkz32, mkc32⟩⟩, ⟨⟨apT32, elk32⟩, ⟨zmb32, tyc41⟩⟩⟩, ⟨⟨⟨zmb41, tyc43⟩, ⟨foff43_0, fpart43_0⟩⟩, ⟨⟨foff43_1, fpart43_1⟩, ⟨fe43, ⟨zmb43, bldT43⟩⟩⟩⟩⟩⟩, ⟨⟨⟨⟨⟨tyc54, mth54_53⟩, ⟨mth54_50, mth54_54⟩⟩, ⟨⟨con54, zmb54⟩, ⟨tyc64, foff64_0⟩⟩⟩, ⟨⟨⟨fpart64_0, foff64_1⟩, ⟨fpart64_1, foff64_2⟩⟩, ⟨⟨fpart64_2, foff64_3⟩, ⟨fpart64_3, ⟨foff64_4, fpart64_4⟩⟩⟩⟩⟩, ⟨⟨⟨⟨zmb64, bldT64⟩, ⟨tyc65, zmb65⟩⟩, ⟨⟨Try.underlying0, Try.underlying2⟩, ⟨Try.underlying3, Try.underlying4⟩⟩⟩, ⟨⟨⟨Try.underlying23, Try.underlying26⟩, ⟨Try.underlying27, Try.underlying32⟩⟩, ⟨⟨Try.underlying41, Try.underlying43⟩, ⟨Try.underlying54, ⟨Try.underlying64, Try.underlying65⟩⟩⟩⟩⟩⟩⟩
theorem wr_k {k i : Nat} (hk1 : 1 ≤ k) (hk2 : k ≤ 60) (hi : i < k) (ne : Nat) (hn : ne ≤ 253402300799) : IntKind.i64.wrap ((k : Int) - 1) = (k : Int) - 1 ∧ IntKind.i64.wrap ((k : Int) - 1 - (i : Int)) = (k : Int) - 1 - (i : Int) ∧
    IntKind.i64.wrap ((ne : Int) - ((k : Int) - 1 - (i : Int))) = (ne : Int) + 1 + i - k :=
  ⟨wrap_i64 (by omega) (by omega), wrap_i64 (by omega) (by omega), by rw [wrap_i64 (by omega) (by omega)]; omega⟩
theorem Move_new (rb lb : Nat) {w k : Nat} (ne now : Nat) (hnn : ne = now / w) (hne : rb ≠ lb ∧ lb ≠ rb) (hw : 1 ≤ w) (hk1 : 1 ≤ k) (hk2 : k ≤ 60) (hn : now ≤ 253402300799) :
    ACt Try.prog 20 [pt rb 0, iv .i64 (now : Int)] [(rb, rbM lb w k 0 0 0 0), (lb, lbM k z0 z0)] (fun r F' => r = iv .i64 0 ∧ F' = [(rb, rbM lb w k ne now 0 0), (lb, lbM k z0 z0)]) := by
  have := Move_step rb lb (s := ⟨[], 0, none⟩) now hne hw hk1 hk2 (Inv.zero w k) hn (by simp)
  have e : R1 lb w k [] 0 = rbM lb w k 0 0 0 0 := by simp [R1, sG, sT]
  rw [e] at this
  subst hnn
  exact this
set_option maxRecDepth 8000 in
set_option maxHeartbeats 8000000 in
theorem Get_some (xb W G k w now : Nat) (zs : List Int) (E' : List Ev) (zs' : List Int) (hb : By zs) (hz : zs.length ≤ 10000) (hg : goP W G) (hgo : GoOk W G k w) (hn : now ≤ 253402300799)
    (hres : rdE w k now k [] zs = some (E', zs')) :
    ACt Try.prog 23 [pt xb 0, iv .i64 W, iv .i64 G, iv .i64 now] [(xb, rd zs false)] (fun r F' => ∃ b c, r = pt b 0 ∧ F' = [(b, R1 c w k E' now), (c, L1 w k E' now), (xb, rd zs' false)]) := by
  refine ACt.intro Try.func23 rfl (by kernel_rfl) (by simp [Try.ntmps23]) (fun cx => ?_)
  simp only [argE, Try.ntmps23, Try.results23]
  have hk1 := hgo.k1
  have hk2 := hgo.k2
  have hw := hgo.w0
  have c1 := New_ok W G k w hg hgo
  obtain ⟨ne, hnn⟩ : ∃ ne, ne = now / w := ⟨_, rfl⟩
  have hnel : ne ≤ 253402300799 := by rw [hnn]; exact Nat.le_trans (Nat.div_le_self _ _) hn
  have c3 := fun rb lb h => Move_new rb lb (w := w) (k := k) ne now hnn h hw hk1 hk2 hn
  have z : ((0 : Int) != 0) = false := by decide
  have eG0 : slG ne w k [] = z0 := rfl
  have eT0 : slT ne w k [] = z0 := rfl
  have eG1 : sG (winP now w k) [] = 0 := rfl
  have eT1 : sT (winP now w k) [] = 0 := rfl
  unfold R1 L1
  rw [← hnn]
  first | (have FRx := FR; clear FRx) | (have FR : ¬ ((1 : Nat) = 0) := Nat.one_ne_zero)
  repeat' first
    | (refine Sm.mk ?_; try simp -dsimp only [ZK, rvc, drawF, headN, pureH, stp, dvc, calleeOf, gcall, pev, eff, newB, okd, og, ogs, ogo, ogp, slv, bltv, opd, litv, strip, one, both, putE, St.put, look, gdOf, gdv, picka, pickv, pickw, binv, bini, bins, binb, binp, bina, shp, eqCells, unv, convv, nilv, faddv, addp, idxav, idxp, load1, load1m, loadn, loadnm, loadv, hget, hset, hrep, hdel, slicev, bnd, shift1, lenv, IntKind.bits, extractv, fieldv, indexv, min2v, max2v, mkiv, cellsA, fillA, buildv, stC, oneC, rowMB, intsA, plN, appE, appZ, appC, appNZ, appNC, VwL, srcC, srcZ, srcM, isBoolT, isPtrT, isSliceT, uOk, Value.oneCell', Nat.reducePow, Int.reducePow, Nat.reduceAdd, Nat.reduceMul, Nat.reduceSub, Nat.reduceLT, Nat.reduceLeDiff, Nat.reduceEqDiff, Nat.reduceBEq, Nat.reduceDiv, Nat.reduceMod, ↓reduceIte, reduceCtorEq, Int.reduceToNat, Int.reduceLT, Int.reduceLE, drawCF, xvc, xst, splitH, calleeV, putE, hdel, TFRhH, SeqQ, BlkQ, LoopQ, BodyQ, z, FR])
    | (refine CallV.new2 (F := []) (List.Perm.refl _) (c1) rfl (Sm.out ?_))
    | (refine CallV.updN (perm2 (by simp only [hget, hdel, ↓reduceIte, FR, z]; first | done | rfl) (by simp only [hget, hdel, ↓reduceIte, FR, z]; first | done | rfl)) (c3 nb1 nb2 (by omega)) (Sm.out ?_))
    | (refine ExW.mk (perm2 (by simp only [hget, hdel, ↓reduceIte, FR, z]; first | done | rfl) (by simp only [hget, hdel, ↓reduceIte, FR, z]; first | done | rfl)) (c3 nb1 nb2 (by omega)) rfl (Sm.out ?_))
    | (refine WP.seq fun K hK => ?_)
    | (refine WP.region (rvc_sound _ _ (Sm.out ?_)))
    | (refine WP.drawC (c := 5) (ws := []) (ls := []) (bs := []) mixed (by decide +kernel) (by decide +kernel) (by decide +kernel) (Sm.out ?_))
    | (refine WP.drawK rfl mixed (by decide +kernel) (Sm.out ?_))
    | (refine Ob.mk ?_; focus (first | assumption | omega | decide | trivial | (intro hob; simp only [hob, ZF]; done) | (intros; (repeat' refine And.intro ?_ ?_) <;> first | assumption | omega | trivial | decide) | (intros; simp only [ZE] at *; (repeat' refine And.intro ?_ ?_) <;> first | assumption | omega | trivial)))
    | (refine And.intro (Ob.out ?_) ?_)
    | (refine WP.block ?_)
    | (refine WP.cond rfl (fun hc => ?_) (fun hc => ?_) <;> (try simp only [ZC, reduceCtorEq, ZD] at hc) <;> (try (exact absurd hc (by decide))) <;> (try (exfalso; omega)))
    | ((first | refine WP.skip ?_ | refine WP.exit ?_); simp only [SeqQ, BlkQ, LoopQ, BodyQ, ↓reduceIte, Nat.reduceEqDiff, reduceCtorEq, look, true_and])
    | (refine WP.ret (Sm.out ?_))
    | (first | refine ExG.no (Sm.out ?_) | refine Or.inl (ExG.no (Sm.out ?_)) | refine Or.inl (And.intro (fun hg => absurd hg (by decide)) (ExG.no (Sm.out ?_))))
    | (refine Rt.mk ?_; refine And.intro ?_ ?_ <;> (intro hg; first | exact absurd hg (by decide) | refine Sm.out ?_))
    | (refine Nu.mk ?_; first | (fail_if_success (have := nb1)); intro nb1 | (fail_if_success (have := nb2)); intro nb2 | (fail_if_success (have := nb3)); intro nb3 | intro nbz)
    | (refine Fr.mk ?_; intro hfr; replace FR := And.intro hfr FR; clear hfr; refine Sm.out ?_)
    | (refine Two.mk ?_ ?_)
    | (refine Cs.mk ?_; intro hcs; first | exact False.elim hcs | (exfalso; omega) | (refine Sm.out ?_))
    | go_step
    | omega
    | (simp only [maxLen_eq]; omega)
    | (refine Or.inr (Rt.mk ?_); refine And.intro ?_ ?_ <;> (intro hg; first | exact absurd hg (by decide) | refine Sm.out ?_))
  refine WP.loop (Γ := TG) (fun q => ⟨[(35, iv .i64 q.i), (34, iv .i64 k), (9, pt nb1 0), (0, pt xb 0)], [(nb1, rbM nb2 w k ne now (sG (winP now w k) q.E) (sT (winP now w k) q.E)), (nb2, lbM k (slG ne w k q.E) (slT ne w k q.E)), (xb, rd q.zs false)]⟩)
    (fun q => q.i ≤ k ∧ RI w k now q.i q.E ∧ By q.zs ∧ q.zs.length ≤ 10000 ∧ rdE w k now (k - q.i) q.E q.zs = some (E', zs')) (fun q => k - q.i) ⟨0, [], zs⟩ ⟨by simp, RI.zero w k now, hb, hz, by simpa using hres⟩ (Sub.pick (by simp [pickB, hget, hdel, FR, eG0, eT0, eG1, eT1]) (by simp [look, eG0, eT0, eG1, eT1])) ?_
  intro ⟨i, E, zs⟩ ⟨hi, hR, hb, hz, hres⟩
  simp only at hi hR hb hz hres ⊢
  (refine WP.nd fun hnd => ?_; simp only [ndF, fresh_cons, fresh_nil, and_true, ne_eq] at hnd; replace FR := And.intro hnd FR; clear hnd)
  obtain ⟨SG, hSG⟩ : ∃ SG, SG = sG (winP now w k) E := ⟨_, rfl⟩
  obtain ⟨ST, hST⟩ : ∃ ST, ST = sT (winP now w k) E := ⟨_, rfl⟩
  obtain ⟨LB, hLB⟩ : ∃ LB, LB = lbM k (slG ne w k E) (slT ne w k E) := ⟨_, rfl⟩
  by_cases hlt : i < k
  · have k1 : decide ((i : Int) < (k : Int)) = true := by simp; omega
    have w1 : IntKind.i64.wrap ((i : Int) + 1) = ((i + 1 : Nat) : Int) := by rw [wrap_i64 (by omega) (by omega)]; omega
    obtain ⟨wa, wb, wc⟩ := wr_k hk1 hk2 hlt ne hnel
    obtain ⟨j, hj⟩ : ∃ j, k - i = j + 1 := ⟨k - i - 1, by omega⟩
    rw [hj] at hres
    obtain ⟨g, z1, t, z2, n1, n2, hgt, hov, hh⟩ := rdE_some hres
    have hki : k - (j + 1) = i := by omega
    have hj2 : k - (i + 1) = j := by omega
    rw [hki] at hh
    obtain ⟨hg64, hb1, hl1⟩ := nF_len hb n1
    obtain ⟨ht64, hb2, hl2⟩ := nF_len hb1 n2
    have x1 : ACt Try.prog 42 [pt xb 0] [(xb, rd zs false)] (fun r F' => r = iv .u64 (g : Int) ∧ F' = [(xb, rd z1 false)]) := by
      have := numX xb zs hb hz; rw [n1] at this; exact this
    have x2 : ACt Try.prog 42 [pt xb 0] [(xb, rd z1 false)] (fun r F' => r = iv .u64 (t : Int) ∧ F' = [(xb, rd z2 false)]) := by
      have := numX xb z1 hb1 (by omega); rw [n2] at this; exact this
    have x3 := badR xb z2 false
    have x4 := right_ct g t
    rw [decide_eq_true hgt] at x4
    have x5 := room_ct nb1 nb2 w k ne now SG ST g t (by rw [hST]; exact hR.sum)
    rw [decide_eq_true (show ST + t ≤ 9223372036854775807 by rw [hST]; exact hov)] at x5
    by_cases hk : k ≤ ne + 1 + i
    · have hh := hh.resolve_right (fun h => h.1 (by rw [← hnn]; exact hk))
      obtain ⟨m, hm⟩ : ∃ m, m = ne + 1 + i - k := ⟨_, rfl⟩
      have em : now / w + 1 + i - k = m := by rw [← hnn, hm]
      rw [em] at hh
      have wd : (ne : Int) + 1 + i - k = (m : Int) := by omega
      rw [wd] at wc
      have d1 : decide ((m : Int) < 0) = false := by simp
      have d2 : decide ((m : Int) ≥ 0) = true := by simp
      have x6 := at_ct nb1 nb2 w k ne now SG ST m hk1 hk2 (by omega)
      have x7 := grow_step nb1 nb2 w k now m i g t E (by omega) hw hk1 hk2 hn hR hgt hov (by rw [← hnn]; omega)
      have hR' := hR.add hw hlt (by rw [← hnn]; exact hk) hgt hov
      rw [em] at hR'
      rw [← hnn] at x7
      obtain ⟨SG', hSG'⟩ : ∃ SG', sG (winP now w k) (E ++ [⟨m * w, g, t⟩]) = SG' := ⟨_, rfl⟩
      obtain ⟨ST', hST'⟩ : ∃ ST', sT (winP now w k) (E ++ [⟨m * w, g, t⟩]) = ST' := ⟨_, rfl⟩
      obtain ⟨LB', hLB'⟩ : ∃ LB', lbM k (slG ne w k (E ++ [⟨m * w, g, t⟩])) (slT ne w k (E ++ [⟨m * w, g, t⟩])) = LB' := ⟨_, rfl⟩
      obtain ⟨M, hM⟩ : ∃ M, M = m % k * 2 := ⟨_, rfl⟩
      rw [hSG', hST', hLB', ← hSG, ← hST, ← hLB, ← hM] at x7
      rw [← hM] at x6
      rw [← hSG, ← hST, ← hLB]
      clear hSG hST hLB hM hnn
      first | (have FRx := FR; clear FRx) | (have FR : ¬ ((1 : Nat) = 0) := Nat.one_ne_zero)
      repeat' first
        | (refine Sm.mk ?_; try simp -dsimp only [ZK, rvc, drawF, headN, pureH, stp, dvc, calleeOf, gcall, pev, eff, newB, okd, og, ogs, ogo, ogp, slv, bltv, opd, litv, strip, one, both, putE, St.put, look, gdOf, gdv, picka, pickv, pickw, binv, bini, bins, binb, binp, bina, shp, eqCells, unv, convv, nilv, faddv, addp, idxav, idxp, load1, load1m, loadn, loadnm, loadv, hget, hset, hrep, hdel, slicev, bnd, shift1, lenv, IntKind.bits, extractv, fieldv, indexv, min2v, max2v, mkiv, cellsA, fillA, buildv, stC, oneC, rowMB, intsA, plN, appE, appZ, appC, appNZ, appNC, VwL, srcC, srcZ, srcM, isBoolT, isPtrT, isSliceT, uOk, Value.oneCell', Nat.reducePow, Int.reducePow, Nat.reduceAdd, Nat.reduceMul, Nat.reduceSub, Nat.reduceLT, Nat.reduceLeDiff, Nat.reduceEqDiff, Nat.reduceBEq, Nat.reduceDiv, Nat.reduceMod, ↓reduceIte, reduceCtorEq, Int.reduceToNat, Int.reduceLT, Int.reduceLE, drawCF, xvc, xst, splitH, calleeV, putE, hdel, TFRhH, SeqQ, BlkQ, LoopQ, BodyQ, k1, w1, wa, wb, wc, d1, d2, FR])
        | (refine CallV.upd (by simp only [hget, ↓reduceIte, FR, k1, w1, wa, wb, wc, d1, d2]; first | done | rfl) (x1) (Sm.out ?_))
        | (refine CallV.upd (by simp only [hget, ↓reduceIte, FR, k1, w1, wa, wb, wc, d1, d2]; first | done | rfl) (x2) (Sm.out ?_))
        | (refine CallV.updN (perm1 (by simp only [hget, hdel, ↓reduceIte, FR, k1, w1, wa, wb, wc, d1, d2]; first | done | rfl)) (x3) (Sm.out ?_))
        | ((first | refine ExF.up ?_ (x3) (Sm.out ?_) | refine ExG.up ?_ (fun _ => x3) (Sm.out ?_) | refine ExG.upJ ?_ (fun _ => x3) (Sm.out ?_) | refine ExG.upI ?_ (fun _ => x3) (Ob.out ?_) (Sm.out ?_)); focus (exact ⟨_, (perm1 (by simp only [hget, hdel, ↓reduceIte, FR, k1, w1, wa, wb, wc, d1, d2]; first | done | rfl))⟩))
        | (first | refine CallV.fn (x4) (Sm.out ?_) | refine ExF.mk (x4) (Sm.out ?_) | refine ExG.mk (fun _ => x4) (Sm.out ?_) | refine ExG.mkJ (fun _ => x4) (Sm.out ?_) | refine ExG.mkI (Ob.out ?_) (fun _ => x4) (Sm.out ?_))
        | (refine CallV.updN (perm1 (by simp only [hget, hdel, ↓reduceIte, FR, k1, w1, wa, wb, wc, d1, d2]; first | done | rfl)) (x5) (Sm.out ?_))
        | ((first | refine ExF.up ?_ (x5) (Sm.out ?_) | refine ExG.up ?_ (fun _ => x5) (Sm.out ?_) | refine ExG.upJ ?_ (fun _ => x5) (Sm.out ?_) | refine ExG.upI ?_ (fun _ => x5) (Ob.out ?_) (Sm.out ?_)); focus (exact ⟨_, (perm1 (by simp only [hget, hdel, ↓reduceIte, FR, k1, w1, wa, wb, wc, d1, d2]; first | done | rfl))⟩))
        | (refine CallV.updN (perm1 (by simp only [hget, hdel, ↓reduceIte, FR, k1, w1, wa, wb, wc, d1, d2]; first | done | rfl)) (x6) (Sm.out ?_))
        | ((first | refine ExF.up ?_ (x6) (Sm.out ?_) | refine ExG.up ?_ (fun _ => x6) (Sm.out ?_) | refine ExG.upJ ?_ (fun _ => x6) (Sm.out ?_) | refine ExG.upI ?_ (fun _ => x6) (Ob.out ?_) (Sm.out ?_)); focus (exact ⟨_, (perm1 (by simp only [hget, hdel, ↓reduceIte, FR, k1, w1, wa, wb, wc, d1, d2]; first | done | rfl))⟩))
        | (refine CallV.updN (perm2 (by simp only [hget, hdel, ↓reduceIte, FR, k1, w1, wa, wb, wc, d1, d2]; first | done | rfl) (by simp only [hget, hdel, ↓reduceIte, FR, k1, w1, wa, wb, wc, d1, d2]; first | done | rfl)) (x7) (Sm.out ?_))
        | (refine ExW.mk (perm2 (by simp only [hget, hdel, ↓reduceIte, FR, k1, w1, wa, wb, wc, d1, d2]; first | done | rfl) (by simp only [hget, hdel, ↓reduceIte, FR, k1, w1, wa, wb, wc, d1, d2]; first | done | rfl)) (x7) rfl (Sm.out ?_))
        | (refine WP.seq fun K hK => ?_)
        | (refine WP.region (rvc_sound _ _ (Sm.out ?_)))
        | (refine WP.drawC (c := 5) (ws := []) (ls := []) (bs := []) mixed (by decide +kernel) (by decide +kernel) (by decide +kernel) (Sm.out ?_))
        | (refine WP.drawK rfl mixed (by decide +kernel) (Sm.out ?_))
        | (refine Ob.mk ?_; focus (first | assumption | omega | decide | trivial | (intro hob; simp only [hob, ZF]; done) | (intros; (repeat' refine And.intro ?_ ?_) <;> first | assumption | omega | trivial | decide) | (intros; simp only [ZE] at *; (repeat' refine And.intro ?_ ?_) <;> first | assumption | omega | trivial)))
        | (refine And.intro (Ob.out ?_) ?_)
        | (refine WP.block ?_)
        | (refine WP.cond rfl (fun hc => ?_) (fun hc => ?_) <;> (try simp only [ZC, reduceCtorEq, ZD] at hc) <;> (try (exact absurd hc (by decide))) <;> (try (exfalso; omega)))
        | ((first | refine WP.skip ?_ | refine WP.exit ?_); simp only [SeqQ, BlkQ, LoopQ, BodyQ, ↓reduceIte, Nat.reduceEqDiff, reduceCtorEq, look, true_and])
        | (refine WP.ret (Sm.out ?_))
        | (first | refine ExG.no (Sm.out ?_) | refine Or.inl (ExG.no (Sm.out ?_)) | refine Or.inl (And.intro (fun hg => absurd hg (by decide)) (ExG.no (Sm.out ?_))))
        | (refine Rt.mk ?_; refine And.intro ?_ ?_ <;> (intro hg; first | exact absurd hg (by decide) | refine Sm.out ?_))
        | (refine Nu.mk ?_; first | (fail_if_success (have := nb1)); intro nb1 | (fail_if_success (have := nb2)); intro nb2 | (fail_if_success (have := nb3)); intro nb3 | intro nbz)
        | (refine Fr.mk ?_; intro hfr; replace FR := And.intro hfr FR; clear hfr; refine Sm.out ?_)
        | (refine Two.mk ?_ ?_)
        | (refine Cs.mk ?_; intro hcs; first | exact False.elim hcs | (exfalso; omega) | (refine Sm.out ?_))
        | go_step
        | omega
        | (simp only [maxLen_eq]; omega)
        | (refine Or.inr (Rt.mk ?_); refine And.intro ?_ ?_ <;> (intro hg; first | exact absurd hg (by decide) | refine Sm.out ?_))
      exact ⟨⟨i + 1, E ++ [⟨m * w, g, t⟩], z2⟩, ⟨by simp only; omega, hR', hb2, by simp only; omega, by simp only; rw [hj2]; exact hh.2⟩, by simp only; omega, (Sub.pick (by simp [pickB, hget, hdel, FR, hSG', hST', hLB']) (by simp [look, hSG', hST', hLB']))⟩
    · obtain ⟨-, rfl, rfl, h9⟩ := hh.resolve_left (fun h => hk (by rw [hnn]; exact h.1))
      clear hh
      have d1 : decide ((ne : Int) + 1 + i - k < 0) = true := by simp; omega
      have d2 : decide ((ne : Int) + 1 + i - k ≥ 0) = false := by simp; omega
      have z5 : ((0 : Int) == 0) = true := by decide
      have y0 : ((0 : Nat) : Int) = 0 := rfl
      rw [y0] at x1 x2
      have x4 : ACt Try.prog 37 [.agg [iv .u64 0, iv .u64 0]] [] (Fn (bv true)) := x4
      have x5 : ACt Try.prog 38 [pt nb1 0, .agg [iv .u64 0, iv .u64 0]] [(nb1, rbM nb2 w k ne now SG ST)] (fun r F' => r = bv true ∧ F' = [(nb1, rbM nb2 w k ne now SG ST)]) := x5
      rw [← hSG, ← hST, ← hLB]
      first | (have FRx := FR; clear FRx) | (have FR : ¬ ((1 : Nat) = 0) := Nat.one_ne_zero)
      repeat' first
        | (refine Sm.mk ?_; try simp -dsimp only [ZK, rvc, drawF, headN, pureH, stp, dvc, calleeOf, gcall, pev, eff, newB, okd, og, ogs, ogo, ogp, slv, bltv, opd, litv, strip, one, both, putE, St.put, look, gdOf, gdv, picka, pickv, pickw, binv, bini, bins, binb, binp, bina, shp, eqCells, unv, convv, nilv, faddv, addp, idxav, idxp, load1, load1m, loadn, loadnm, loadv, hget, hset, hrep, hdel, slicev, bnd, shift1, lenv, IntKind.bits, extractv, fieldv, indexv, min2v, max2v, mkiv, cellsA, fillA, buildv, stC, oneC, rowMB, intsA, plN, appE, appZ, appC, appNZ, appNC, VwL, srcC, srcZ, srcM, isBoolT, isPtrT, isSliceT, uOk, Value.oneCell', Nat.reducePow, Int.reducePow, Nat.reduceAdd, Nat.reduceMul, Nat.reduceSub, Nat.reduceLT, Nat.reduceLeDiff, Nat.reduceEqDiff, Nat.reduceBEq, Nat.reduceDiv, Nat.reduceMod, ↓reduceIte, reduceCtorEq, Int.reduceToNat, Int.reduceLT, Int.reduceLE, drawCF, xvc, xst, splitH, calleeV, putE, hdel, TFRhH, SeqQ, BlkQ, LoopQ, BodyQ, k1, w1, wa, wb, wc, d1, d2, z5, fe43, FR])
        | (refine CallV.upd (by simp only [hget, ↓reduceIte, FR, k1, w1, wa, wb, wc, d1, d2, z5, fe43]; first | done | rfl) (x1) (Sm.out ?_))
        | (refine CallV.upd (by simp only [hget, ↓reduceIte, FR, k1, w1, wa, wb, wc, d1, d2, z5, fe43]; first | done | rfl) (x2) (Sm.out ?_))
        | (refine CallV.updN (perm1 (by simp only [hget, hdel, ↓reduceIte, FR, k1, w1, wa, wb, wc, d1, d2, z5, fe43]; first | done | rfl)) (x3) (Sm.out ?_))
        | ((first | refine ExF.up ?_ (x3) (Sm.out ?_) | refine ExG.up ?_ (fun _ => x3) (Sm.out ?_) | refine ExG.upJ ?_ (fun _ => x3) (Sm.out ?_) | refine ExG.upI ?_ (fun _ => x3) (Ob.out ?_) (Sm.out ?_)); focus (exact ⟨_, (perm1 (by simp only [hget, hdel, ↓reduceIte, FR, k1, w1, wa, wb, wc, d1, d2, z5, fe43]; first | done | rfl))⟩))
        | (first | refine CallV.fn (x4) (Sm.out ?_) | refine ExF.mk (x4) (Sm.out ?_) | refine ExG.mk (fun _ => x4) (Sm.out ?_) | refine ExG.mkJ (fun _ => x4) (Sm.out ?_) | refine ExG.mkI (Ob.out ?_) (fun _ => x4) (Sm.out ?_))
        | (refine CallV.updN (perm1 (by simp only [hget, hdel, ↓reduceIte, FR, k1, w1, wa, wb, wc, d1, d2, z5, fe43]; first | done | rfl)) (x5) (Sm.out ?_))
        | ((first | refine ExF.up ?_ (x5) (Sm.out ?_) | refine ExG.up ?_ (fun _ => x5) (Sm.out ?_) | refine ExG.upJ ?_ (fun _ => x5) (Sm.out ?_) | refine ExG.upI ?_ (fun _ => x5) (Ob.out ?_) (Sm.out ?_)); focus (exact ⟨_, (perm1 (by simp only [hget, hdel, ↓reduceIte, FR, k1, w1, wa, wb, wc, d1, d2, z5, fe43]; first | done | rfl))⟩))
        | (refine WP.seq fun K hK => ?_)
        | (refine WP.region (rvc_sound _ _ (Sm.out ?_)))
        | (refine WP.drawC (c := 5) (ws := []) (ls := []) (bs := []) mixed (by decide +kernel) (by decide +kernel) (by decide +kernel) (Sm.out ?_))
        | (refine WP.drawK rfl mixed (by decide +kernel) (Sm.out ?_))
        | (refine Ob.mk ?_; focus (first | assumption | omega | decide | trivial | (intro hob; simp only [hob, ZF]; done) | (intros; (repeat' refine And.intro ?_ ?_) <;> first | assumption | omega | trivial | decide) | (intros; simp only [ZE] at *; (repeat' refine And.intro ?_ ?_) <;> first | assumption | omega | trivial)))
        | (refine And.intro (Ob.out ?_) ?_)
        | (refine WP.block ?_)
        | (refine WP.cond rfl (fun hc => ?_) (fun hc => ?_) <;> (try simp only [ZC, reduceCtorEq, ZD] at hc) <;> (try (exact absurd hc (by decide))) <;> (try (exfalso; omega)))
        | ((first | refine WP.skip ?_ | refine WP.exit ?_); simp only [SeqQ, BlkQ, LoopQ, BodyQ, ↓reduceIte, Nat.reduceEqDiff, reduceCtorEq, look, true_and])
        | (refine WP.ret (Sm.out ?_))
        | (first | refine ExG.no (Sm.out ?_) | refine Or.inl (ExG.no (Sm.out ?_)) | refine Or.inl (And.intro (fun hg => absurd hg (by decide)) (ExG.no (Sm.out ?_))))
        | (refine Rt.mk ?_; refine And.intro ?_ ?_ <;> (intro hg; first | exact absurd hg (by decide) | refine Sm.out ?_))
        | (refine Nu.mk ?_; first | (fail_if_success (have := nb1)); intro nb1 | (fail_if_success (have := nb2)); intro nb2 | (fail_if_success (have := nb3)); intro nb3 | intro nbz)
        | (refine Fr.mk ?_; intro hfr; replace FR := And.intro hfr FR; clear hfr; refine Sm.out ?_)
        | (refine Two.mk ?_ ?_)
        | (refine Cs.mk ?_; intro hcs; first | exact False.elim hcs | (exfalso; omega) | (refine Sm.out ?_))
        | go_step
        | omega
        | (simp only [maxLen_eq]; omega)
        | (refine Or.inr (Rt.mk ?_); refine And.intro ?_ ?_ <;> (intro hg; first | exact absurd hg (by decide) | refine Sm.out ?_))
      exact ⟨⟨i + 1, E, z2⟩, ⟨by simp only; omega, hR.next, hb2, by simp only; omega, by simp only; rw [hj2]; exact h9⟩, by simp only; omega, (Sub.pick (by simp [pickB, hget, hdel, FR, ← hSG, ← hST, ← hLB]) (by simp [look, ← hSG, ← hST, ← hLB]))⟩
  · obtain rfl : i = k := by omega
    have k1 : decide ((i : Int) < (i : Int)) = false := by simp
    rw [Nat.sub_self] at hres
    simp only [rdE, Option.some.injEq, Prod.mk.injEq] at hres
    obtain ⟨rfl, rfl⟩ := hres
    rw [← hSG, ← hST, ← hLB]
    first | (have FRx := FR; clear FRx) | (have FR : ¬ ((1 : Nat) = 0) := Nat.one_ne_zero)
    repeat' first
      | (refine Sm.mk ?_; try simp -dsimp only [ZK, rvc, drawF, headN, pureH, stp, dvc, calleeOf, gcall, pev, eff, newB, okd, og, ogs, ogo, ogp, slv, bltv, opd, litv, strip, one, both, putE, St.put, look, gdOf, gdv, picka, pickv, pickw, binv, bini, bins, binb, binp, bina, shp, eqCells, unv, convv, nilv, faddv, addp, idxav, idxp, load1, load1m, loadn, loadnm, loadv, hget, hset, hrep, hdel, slicev, bnd, shift1, lenv, IntKind.bits, extractv, fieldv, indexv, min2v, max2v, mkiv, cellsA, fillA, buildv, stC, oneC, rowMB, intsA, plN, appE, appZ, appC, appNZ, appNC, VwL, srcC, srcZ, srcM, isBoolT, isPtrT, isSliceT, uOk, Value.oneCell', Nat.reducePow, Int.reducePow, Nat.reduceAdd, Nat.reduceMul, Nat.reduceSub, Nat.reduceLT, Nat.reduceLeDiff, Nat.reduceEqDiff, Nat.reduceBEq, Nat.reduceDiv, Nat.reduceMod, ↓reduceIte, reduceCtorEq, Int.reduceToNat, Int.reduceLT, Int.reduceLE, drawCF, xvc, xst, splitH, calleeV, putE, hdel, TFRhH, SeqQ, BlkQ, LoopQ, BodyQ, k1, FR])
      | (refine WP.seq fun K hK => ?_)
      | (refine WP.region (rvc_sound _ _ (Sm.out ?_)))
      | (refine WP.drawC (c := 5) (ws := []) (ls := []) (bs := []) mixed (by decide +kernel) (by decide +kernel) (by decide +kernel) (Sm.out ?_))
      | (refine WP.drawK rfl mixed (by decide +kernel) (Sm.out ?_))
      | (refine Ob.mk ?_; focus (first | assumption | omega | decide | trivial | (intro hob; simp only [hob, ZF]; done) | (intros; (repeat' refine And.intro ?_ ?_) <;> first | assumption | omega | trivial | decide) | (intros; simp only [ZE] at *; (repeat' refine And.intro ?_ ?_) <;> first | assumption | omega | trivial)))
      | (refine And.intro (Ob.out ?_) ?_)
      | (refine WP.block ?_)
      | (refine WP.cond rfl (fun hc => ?_) (fun hc => ?_) <;> (try simp only [ZC, reduceCtorEq, ZD] at hc) <;> (try (exact absurd hc (by decide))) <;> (try (exfalso; omega)))
      | ((first | refine WP.skip ?_ | refine WP.exit ?_); simp only [SeqQ, BlkQ, LoopQ, BodyQ, ↓reduceIte, Nat.reduceEqDiff, reduceCtorEq, look, true_and])
      | (refine WP.ret (Sm.out ?_))
      | (first | refine ExG.no (Sm.out ?_) | refine Or.inl (ExG.no (Sm.out ?_)) | refine Or.inl (And.intro (fun hg => absurd hg (by decide)) (ExG.no (Sm.out ?_))))
      | (refine Rt.mk ?_; refine And.intro ?_ ?_ <;> (intro hg; first | exact absurd hg (by decide) | refine Sm.out ?_))
      | (refine Nu.mk ?_; first | (fail_if_success (have := nb1)); intro nb1 | (fail_if_success (have := nb2)); intro nb2 | (fail_if_success (have := nb3)); intro nb3 | intro nbz)
      | (refine Fr.mk ?_; intro hfr; replace FR := And.intro hfr FR; clear hfr; refine Sm.out ?_)
      | (refine Two.mk ?_ ?_)
      | (refine Cs.mk ?_; intro hcs; first | exact False.elim hcs | (exfalso; omega) | (refine Sm.out ?_))
      | go_step
      | omega
      | (simp only [maxLen_eq]; omega)
      | (refine Or.inr (Rt.mk ?_); refine And.intro ?_ ?_ <;> (intro hg; first | exact absurd hg (by decide) | refine Sm.out ?_))
    (refine OutQ.drop _ _ (perm3 (by simp only [hget, hdel, ↓reduceIte, if_true, if_false, FR, hSG, hST, hLB]; first | done | rfl) (by simp only [hget, hdel, ↓reduceIte, if_true, if_false, FR, hSG, hST, hLB]; first | done | rfl) (by simp only [hget, hdel, ↓reduceIte, if_true, if_false, FR, hSG, hST, hLB]; first | done | rfl)) (by simp only [resv, ZK, look, loadv, loadn, loadnm, load1, load1m, hget, ↓reduceIte, Nat.reduceEqDiff, Nat.reduceAdd, Nat.reduceMul, Nat.reduceLeDiff, Nat.reduceLT, reduceCtorEq, TFRhH, FR, hSG, hST, hLB]) ⟨nb1, nb2, (by simp only [resv, resA, ZK, look, loadv, loadn, loadnm, load1, load1m, hget, ↓reduceIte, Nat.reduceEqDiff, Nat.reduceAdd, Nat.reduceMul, Nat.reduceLeDiff, Nat.reduceLT, reduceCtorEq, TFRhH, FR, hSG, hST, hLB]; first | done | rfl), rfl⟩)
end Go.Proofs.Ytbnkmhlnoaebcaa
namespace Go.Proofs.Ytbnkmhlnoaebcaa
open Go Wi
set_option linter.unusedVariables false
set_option linter.unusedSimpArgs false
theorem TFRhI : (((((((type_of% tyc0) ∧ (type_of% tyc2)) ∧ ((type_of% zmb2) ∧ (type_of% tyc3))) ∧ (((type_of% zmb3) ∧ (type_of% tyc4)) ∧ ((type_of% zmb4) ∧ (type_of% tyc23)))) ∧ ((((type_of% zmb23) ∧ (type_of% tyc26)) ∧ ((type_of% mth26_30) ∧ (type_of% mth26_39))) ∧ (((type_of% mth26_38) ∧ (type_of% con26)) ∧ ((type_of% zmb26) ∧ (type_of% tyc27))))) ∧ (((((type_of% tyc32) ∧ (type_of% elt32)) ∧ ((type_of% mkz32) ∧ (type_of% mkc32))) ∧ (((type_of% apT32) ∧ (type_of% elk32)) ∧ ((type_of% zmb32) ∧ (type_of% tyc41)))) ∧ ((((type_of% zmb41) ∧ (type_of% tyc43)) ∧ ((type_of% foff43_0) ∧ (type_of% fpart43_0))) ∧ (((type_of% foff43_1) ∧ (type_of% fpart43_1)) ∧ ((type_of% fe43) ∧ ((type_of% zmb43) ∧ (type_of% bldT43))))))) ∧ ((((((type_of% tyc54) ∧ (type_of% mth54_53)) ∧ ((type_of% mth54_50) ∧ (type_of% mth54_54))) ∧ (((type_of% con54) ∧ (type_of% zmb54)) ∧ ((type_of% tyc64) ∧ (type_of% foff64_0)))) ∧ ((((type_of% fpart64_0) ∧ (type_of% foff64_1)) ∧ ((type_of% fpart64_1) ∧ (type_of% foff64_2))) ∧ (((type_of% fpart64_2) ∧ (type_of% foff64_3)) ∧ ((type_of% fpart64_3) ∧ ((type_of% foff64_4) ∧ (type_of% fpart64_4)))))) ∧ (((((type_of% zmb64) ∧ (type_of% bldT64)) ∧ ((type_of% tyc65) ∧ (type_of% zmb65))) ∧ (((type_of% Try.underlying0) ∧ (type_of% Try.underlying2)) ∧ ((type_of% Try.underlying3) ∧ (type_of% Try.underlying4)))) ∧ ((((type_of% Try.underlying23) ∧ (type_of% Try.underlying26)) ∧ ((type_of% Try.underlying27) ∧ (type_of% Try.underlying32))) ∧ (((type_of% Try.underlying41) ∧ (type_of% Try.underlying43)) ∧ ((type_of% Try.underlying54) ∧ ((type_of% Try.underlying64) ∧ (type_of% Try.underlying65)))))))) :=
  ⟨⟨⟨⟨⟨⟨tyc0, tyc2⟩, ⟨zmb2, tyc3⟩⟩, ⟨⟨zmb3, tyc4⟩, ⟨zmb4, tyc23⟩⟩⟩, ⟨⟨⟨zmb23, tyc26⟩, ⟨mth26_30, mth26_39⟩⟩, ⟨⟨mth26_38, con26⟩, ⟨zmb26, tyc27⟩⟩⟩⟩, ⟨⟨⟨⟨tyc32, elt32⟩, ⟨mkz32, mkc32⟩⟩, ⟨⟨apT32, elk32⟩, ⟨zmb32, tyc41⟩⟩⟩, ⟨⟨⟨zmb41, tyc43⟩, ⟨foff43_0, fpart43_0⟩⟩, ⟨⟨foff43_1, fpart43_1⟩, ⟨fe43, ⟨zmb43, bldT43⟩⟩⟩⟩⟩⟩, ⟨⟨⟨⟨⟨tyc54, mth54_53⟩, ⟨mth54_50, mth54_54⟩⟩, ⟨⟨con54, zmb54⟩, ⟨tyc64, foff64_0⟩⟩⟩, ⟨⟨⟨fpart64_0, foff64_1⟩, ⟨fpart64_1, foff64_2⟩⟩, ⟨⟨fpart64_2, foff64_3⟩, ⟨fpart64_3, ⟨foff64_4, fpart64_4⟩⟩⟩⟩⟩, ⟨⟨⟨⟨zmb64, bldT64⟩, ⟨tyc65, zmb65⟩⟩, ⟨⟨Try.underlying0, Try.underlying2⟩, ⟨Try.underlying3, Try.underlying4⟩⟩⟩, ⟨⟨⟨Try.underlying23, Try.underlying26⟩, ⟨Try.underlying27, Try.underlying32⟩⟩, ⟨⟨Try.underlying41, Try.underlying43⟩, ⟨Try.underlying54, ⟨Try.underlying64, Try.underlying65⟩⟩⟩⟩⟩⟩⟩
set_option maxRecDepth 8000 in
set_option maxHeartbeats 8000000 in
theorem Get_none (xb W G k w now : Nat) (zs : List Int) (hb : By zs) (hz : zs.length ≤ 10000) (hg : goP W G) (hgo : GoOk W G k w) (hn : now ≤ 253402300799)
    (hres : rdE w k now k [] zs = none) :
    ACt Try.prog 23 [pt xb 0, iv .i64 W, iv .i64 G, iv .i64 now] [(xb, rd zs false)] (fun r F' => r = nilP ∧ F' = [(xb, rdN)]) := by
  refine ACt.intro Try.func23 rfl (by kernel_rfl) (by simp [Try.ntmps23]) (fun cx => ?_)
  simp only [argE, Try.ntmps23, Try.results23]
  have hk1 := hgo.k1
  have hk2 := hgo.k2
  have hw := hgo.w0
  have c1 := New_ok W G k w hg hgo
  obtain ⟨ne, hnn⟩ : ∃ ne, ne = now / w := ⟨_, rfl⟩
  have hnel : ne ≤ 253402300799 := by rw [hnn]; exact Nat.le_trans (Nat.div_le_self _ _) hn
  have c3 := fun rb lb h => Move_new rb lb (w := w) (k := k) ne now hnn h hw hk1 hk2 hn
  have z : ((0 : Int) != 0) = false := by decide
  have eG0 : slG ne w k [] = z0 := rfl
  have eT0 : slT ne w k [] = z0 := rfl
  have eG1 : sG (winP now w k) [] = 0 := rfl
  have eT1 : sT (winP now w k) [] = 0 := rfl
  first | (have FRx := FR; clear FRx) | (have FR : ¬ ((1 : Nat) = 0) := Nat.one_ne_zero)
  repeat' first
    | (refine Sm.mk ?_; try simp -dsimp only [ZK, rvc, drawF, headN, pureH, stp, dvc, calleeOf, gcall, pev, eff, newB, okd, og, ogs, ogo, ogp, slv, bltv, opd, litv, strip, one, both, putE, St.put, look, gdOf, gdv, picka, pickv, pickw, binv, bini, bins, binb, binp, bina, shp, eqCells, unv, convv, nilv, faddv, addp, idxav, idxp, load1, load1m, loadn, loadnm, loadv, hget, hset, hrep, hdel, slicev, bnd, shift1, lenv, IntKind.bits, extractv, fieldv, indexv, min2v, max2v, mkiv, cellsA, fillA, buildv, stC, oneC, rowMB, intsA, plN, appE, appZ, appC, appNZ, appNC, VwL, srcC, srcZ, srcM, isBoolT, isPtrT, isSliceT, uOk, Value.oneCell', Nat.reducePow, Int.reducePow, Nat.reduceAdd, Nat.reduceMul, Nat.reduceSub, Nat.reduceLT, Nat.reduceLeDiff, Nat.reduceEqDiff, Nat.reduceBEq, Nat.reduceDiv, Nat.reduceMod, ↓reduceIte, reduceCtorEq, Int.reduceToNat, Int.reduceLT, Int.reduceLE, drawCF, xvc, xst, splitH, calleeV, putE, hdel, TFRhI, SeqQ, BlkQ, LoopQ, BodyQ, z, FR])
    | (refine CallV.new2 (F := []) (List.Perm.refl _) (c1) rfl (Sm.out ?_))
    | (refine CallV.updN (perm2 (by simp only [hget, hdel, ↓reduceIte, FR, z]; first | done | rfl) (by simp only [hget, hdel, ↓reduceIte, FR, z]; first | done | rfl)) (c3 nb1 nb2 (by omega)) (Sm.out ?_))
    | (refine ExW.mk (perm2 (by simp only [hget, hdel, ↓reduceIte, FR, z]; first | done | rfl) (by simp only [hget, hdel, ↓reduceIte, FR, z]; first | done | rfl)) (c3 nb1 nb2 (by omega)) rfl (Sm.out ?_))
    | (refine WP.seq fun K hK => ?_)
    | (refine WP.region (rvc_sound _ _ (Sm.out ?_)))
    | (refine WP.drawC (c := 5) (ws := []) (ls := []) (bs := []) mixed (by decide +kernel) (by decide +kernel) (by decide +kernel) (Sm.out ?_))
    | (refine WP.drawK rfl mixed (by decide +kernel) (Sm.out ?_))
    | (refine Ob.mk ?_; focus (first | assumption | omega | decide | trivial | (intro hob; simp only [hob, ZF]; done) | (intros; (repeat' refine And.intro ?_ ?_) <;> first | assumption | omega | trivial | decide) | (intros; simp only [ZE] at *; (repeat' refine And.intro ?_ ?_) <;> first | assumption | omega | trivial)))
    | (refine And.intro (Ob.out ?_) ?_)
    | (refine WP.block ?_)
    | (refine WP.cond rfl (fun hc => ?_) (fun hc => ?_) <;> (try simp only [ZC, reduceCtorEq, ZD] at hc) <;> (try (exact absurd hc (by decide))) <;> (try (exfalso; omega)))
    | ((first | refine WP.skip ?_ | refine WP.exit ?_); simp only [SeqQ, BlkQ, LoopQ, BodyQ, ↓reduceIte, Nat.reduceEqDiff, reduceCtorEq, look, true_and])
    | (refine WP.ret (Sm.out ?_))
    | (first | refine ExG.no (Sm.out ?_) | refine Or.inl (ExG.no (Sm.out ?_)) | refine Or.inl (And.intro (fun hg => absurd hg (by decide)) (ExG.no (Sm.out ?_))))
    | (refine Rt.mk ?_; refine And.intro ?_ ?_ <;> (intro hg; first | exact absurd hg (by decide) | refine Sm.out ?_))
    | (refine Nu.mk ?_; first | (fail_if_success (have := nb1)); intro nb1 | (fail_if_success (have := nb2)); intro nb2 | (fail_if_success (have := nb3)); intro nb3 | intro nbz)
    | (refine Fr.mk ?_; intro hfr; replace FR := And.intro hfr FR; clear hfr; refine Sm.out ?_)
    | (refine Two.mk ?_ ?_)
    | (refine Cs.mk ?_; intro hcs; first | exact False.elim hcs | (exfalso; omega) | (refine Sm.out ?_))
    | go_step
    | omega
    | (simp only [maxLen_eq]; omega)
    | (refine Or.inr (Rt.mk ?_); refine And.intro ?_ ?_ <;> (intro hg; first | exact absurd hg (by decide) | refine Sm.out ?_))
  refine WP.loop (Γ := TG) (fun q => ⟨[(35, iv .i64 q.i), (34, iv .i64 k), (9, pt nb1 0), (0, pt xb 0)], [(nb1, rbM nb2 w k ne now (sG (winP now w k) q.E) (sT (winP now w k) q.E)), (nb2, lbM k (slG ne w k q.E) (slT ne w k q.E)), (xb, rd q.zs false)]⟩)
    (fun q => q.i ≤ k ∧ RI w k now q.i q.E ∧ By q.zs ∧ q.zs.length ≤ 10000 ∧ rdE w k now (k - q.i) q.E q.zs = none) (fun q => k - q.i) ⟨0, [], zs⟩ ⟨by simp, RI.zero w k now, hb, hz, by simpa using hres⟩ (Sub.pick (by simp [pickB, hget, hdel, FR, eG0, eT0, eG1, eT1]) (by simp [look, eG0, eT0, eG1, eT1])) ?_
  intro ⟨i, E, zs⟩ ⟨hi, hR, hb, hz, hres⟩
  simp only at hi hR hb hz hres ⊢
  (refine WP.nd fun hnd => ?_; simp only [ndF, fresh_cons, fresh_nil, and_true, ne_eq] at hnd; replace FR := And.intro hnd FR; clear hnd)
  obtain ⟨SG, hSG⟩ : ∃ SG, SG = sG (winP now w k) E := ⟨_, rfl⟩
  obtain ⟨ST, hST⟩ : ∃ ST, ST = sT (winP now w k) E := ⟨_, rfl⟩
  obtain ⟨LB, hLB⟩ : ∃ LB, LB = lbM k (slG ne w k E) (slT ne w k E) := ⟨_, rfl⟩
  by_cases hlt : i < k
  · have k1 : decide ((i : Int) < (k : Int)) = true := by simp; omega
    have w1 : IntKind.i64.wrap ((i : Int) + 1) = ((i + 1 : Nat) : Int) := by rw [wrap_i64 (by omega) (by omega)]; omega
    obtain ⟨wa, wb, wc⟩ := wr_k hk1 hk2 hlt ne hnel
    obtain ⟨j, hj⟩ : ∃ j, k - i = j + 1 := ⟨k - i - 1, by omega⟩
    rw [hj] at hres
    have hki : k - (j + 1) = i := by omega
    have hj2 : k - (i + 1) = j := by omega
    have hh := rdE_none hres
    rw [hki] at hh
    clear hres
    have xs := spoil_n xb
    have xb1 := bad_e xb true
    rw [← hSG, ← hST, ← hLB]
    rcases hh with n1 | ⟨g, z1, n1, hh⟩
    · have x1 : ACt Try.prog 42 [pt xb 0] [(xb, rd zs false)] (fun r F' => r = iv .u64 0 ∧ F' = [(xb, rdN)]) := by
        have := numX xb zs hb hz; rw [n1] at this; exact this
      have x2 : ACt Try.prog 42 [pt xb 0] [(xb, rdN)] (fun r F' => r = iv .u64 0 ∧ F' = [(xb, rdN)]) := numN xb
      first | (have FRx := FR; clear FRx) | (have FR : ¬ ((1 : Nat) = 0) := Nat.one_ne_zero)
      repeat' first
        | (refine Sm.mk ?_; try simp -dsimp only [ZK, rvc, drawF, headN, pureH, stp, dvc, calleeOf, gcall, pev, eff, newB, okd, og, ogs, ogo, ogp, slv, bltv, opd, litv, strip, one, both, putE, St.put, look, gdOf, gdv, picka, pickv, pickw, binv, bini, bins, binb, binp, bina, shp, eqCells, unv, convv, nilv, faddv, addp, idxav, idxp, load1, load1m, loadn, loadnm, loadv, hget, hset, hrep, hdel, slicev, bnd, shift1, lenv, IntKind.bits, extractv, fieldv, indexv, min2v, max2v, mkiv, cellsA, fillA, buildv, stC, oneC, rowMB, intsA, plN, appE, appZ, appC, appNZ, appNC, VwL, srcC, srcZ, srcM, isBoolT, isPtrT, isSliceT, uOk, Value.oneCell', Nat.reducePow, Int.reducePow, Nat.reduceAdd, Nat.reduceMul, Nat.reduceSub, Nat.reduceLT, Nat.reduceLeDiff, Nat.reduceEqDiff, Nat.reduceBEq, Nat.reduceDiv, Nat.reduceMod, ↓reduceIte, reduceCtorEq, Int.reduceToNat, Int.reduceLT, Int.reduceLE, drawCF, xvc, xst, splitH, calleeV, putE, hdel, TFRhI, SeqQ, BlkQ, LoopQ, BodyQ, k1, wa, wb, wc, FR])
        | (refine CallV.upd (by simp only [hget, ↓reduceIte, FR, k1, wa, wb, wc]; first | done | rfl) (x1) (Sm.out ?_))
        | (refine CallV.upd (by simp only [hget, ↓reduceIte, FR, k1, wa, wb, wc]; first | done | rfl) (x2) (Sm.out ?_))
        | (refine CallV.updN (perm1 (by simp only [hget, hdel, ↓reduceIte, FR, k1, wa, wb, wc]; first | done | rfl)) (xb1) (Sm.out ?_))
        | ((first | refine ExF.up ?_ (xb1) (Sm.out ?_) | refine ExG.up ?_ (fun _ => xb1) (Sm.out ?_) | refine ExG.upJ ?_ (fun _ => xb1) (Sm.out ?_) | refine ExG.upI ?_ (fun _ => xb1) (Ob.out ?_) (Sm.out ?_)); focus (exact ⟨_, (perm1 (by simp only [hget, hdel, ↓reduceIte, FR, k1, wa, wb, wc]; first | done | rfl))⟩))
        | (refine CallV.upd (by simp only [hget, ↓reduceIte, FR, k1, wa, wb, wc]; first | done | rfl) (xs) (Sm.out ?_))
        | (refine WP.seq fun K hK => ?_)
        | (refine WP.region (rvc_sound _ _ (Sm.out ?_)))
        | (refine WP.drawC (c := 5) (ws := []) (ls := []) (bs := []) mixed (by decide +kernel) (by decide +kernel) (by decide +kernel) (Sm.out ?_))
        | (refine WP.drawK rfl mixed (by decide +kernel) (Sm.out ?_))
        | (refine Ob.mk ?_; focus (first | assumption | omega | decide | trivial | (intro hob; simp only [hob, ZF]; done) | (intros; (repeat' refine And.intro ?_ ?_) <;> first | assumption | omega | trivial | decide) | (intros; simp only [ZE] at *; (repeat' refine And.intro ?_ ?_) <;> first | assumption | omega | trivial)))
        | (refine And.intro (Ob.out ?_) ?_)
        | (refine WP.block ?_)
        | (refine WP.cond rfl (fun hc => ?_) (fun hc => ?_) <;> (try simp only [ZC, reduceCtorEq, ZD] at hc) <;> (try (exact absurd hc (by decide))) <;> (try (exfalso; omega)))
        | ((first | refine WP.skip ?_ | refine WP.exit ?_); simp only [SeqQ, BlkQ, LoopQ, BodyQ, ↓reduceIte, Nat.reduceEqDiff, reduceCtorEq, look, true_and])
        | (refine WP.ret (Sm.out ?_))
        | (first | refine ExG.no (Sm.out ?_) | refine Or.inl (ExG.no (Sm.out ?_)) | refine Or.inl (And.intro (fun hg => absurd hg (by decide)) (ExG.no (Sm.out ?_))))
        | (refine Rt.mk ?_; refine And.intro ?_ ?_ <;> (intro hg; first | exact absurd hg (by decide) | refine Sm.out ?_))
        | (refine Nu.mk ?_; first | (fail_if_success (have := nb1)); intro nb1 | (fail_if_success (have := nb2)); intro nb2 | (fail_if_success (have := nb3)); intro nb3 | intro nbz)
        | (refine Fr.mk ?_; intro hfr; replace FR := And.intro hfr FR; clear hfr; refine Sm.out ?_)
        | (refine Two.mk ?_ ?_)
        | (refine Cs.mk ?_; intro hcs; first | exact False.elim hcs | (exfalso; omega) | (refine Sm.out ?_))
        | go_step
        | omega
        | (simp only [maxLen_eq]; omega)
        | (refine Or.inr (Rt.mk ?_); refine And.intro ?_ ?_ <;> (intro hg; first | exact absurd hg (by decide) | refine Sm.out ?_))
      (refine OutQ.drop _ _ (perm1 (by simp only [hget, hdel, ↓reduceIte, if_true, if_false, FR]; first | done | rfl)) (by simp only [resv, ZK, look, loadv, loadn, loadnm, load1, load1m, hget, ↓reduceIte, Nat.reduceEqDiff, Nat.reduceAdd, Nat.reduceMul, Nat.reduceLeDiff, Nat.reduceLT, reduceCtorEq, TFRhI, FR]) ⟨(by simp only [resv, resA, ZK, look, loadv, loadn, loadnm, load1, load1m, hget, ↓reduceIte, Nat.reduceEqDiff, Nat.reduceAdd, Nat.reduceMul, Nat.reduceLeDiff, Nat.reduceLT, reduceCtorEq, TFRhI, FR]; first | done | rfl), rfl⟩)
    obtain ⟨hg64, hb1, hl1⟩ := nF_len hb n1
    have x1 : ACt Try.prog 42 [pt xb 0] [(xb, rd zs false)] (fun r F' => r = iv .u64 (g : Int) ∧ F' = [(xb, rd z1 false)]) := by
      have := numX xb zs hb hz; rw [n1] at this; exact this
    rcases hh with n2 | ⟨t, z2, n2, hh⟩
    · have x2 : ACt Try.prog 42 [pt xb 0] [(xb, rd z1 false)] (fun r F' => r = iv .u64 0 ∧ F' = [(xb, rdN)]) := by
        have := numX xb z1 hb1 (by omega); rw [n2] at this; exact this
      first | (have FRx := FR; clear FRx) | (have FR : ¬ ((1 : Nat) = 0) := Nat.one_ne_zero)
      repeat' first
        | (refine Sm.mk ?_; try simp -dsimp only [ZK, rvc, drawF, headN, pureH, stp, dvc, calleeOf, gcall, pev, eff, newB, okd, og, ogs, ogo, ogp, slv, bltv, opd, litv, strip, one, both, putE, St.put, look, gdOf, gdv, picka, pickv, pickw, binv, bini, bins, binb, binp, bina, shp, eqCells, unv, convv, nilv, faddv, addp, idxav, idxp, load1, load1m, loadn, loadnm, loadv, hget, hset, hrep, hdel, slicev, bnd, shift1, lenv, IntKind.bits, extractv, fieldv, indexv, min2v, max2v, mkiv, cellsA, fillA, buildv, stC, oneC, rowMB, intsA, plN, appE, appZ, appC, appNZ, appNC, VwL, srcC, srcZ, srcM, isBoolT, isPtrT, isSliceT, uOk, Value.oneCell', Nat.reducePow, Int.reducePow, Nat.reduceAdd, Nat.reduceMul, Nat.reduceSub, Nat.reduceLT, Nat.reduceLeDiff, Nat.reduceEqDiff, Nat.reduceBEq, Nat.reduceDiv, Nat.reduceMod, ↓reduceIte, reduceCtorEq, Int.reduceToNat, Int.reduceLT, Int.reduceLE, drawCF, xvc, xst, splitH, calleeV, putE, hdel, TFRhI, SeqQ, BlkQ, LoopQ, BodyQ, k1, wa, wb, wc, FR])
        | (refine CallV.upd (by simp only [hget, ↓reduceIte, FR, k1, wa, wb, wc]; first | done | rfl) (x1) (Sm.out ?_))
        | (refine CallV.upd (by simp only [hget, ↓reduceIte, FR, k1, wa, wb, wc]; first | done | rfl) (x2) (Sm.out ?_))
        | (refine CallV.updN (perm1 (by simp only [hget, hdel, ↓reduceIte, FR, k1, wa, wb, wc]; first | done | rfl)) (xb1) (Sm.out ?_))
        | ((first | refine ExF.up ?_ (xb1) (Sm.out ?_) | refine ExG.up ?_ (fun _ => xb1) (Sm.out ?_) | refine ExG.upJ ?_ (fun _ => xb1) (Sm.out ?_) | refine ExG.upI ?_ (fun _ => xb1) (Ob.out ?_) (Sm.out ?_)); focus (exact ⟨_, (perm1 (by simp only [hget, hdel, ↓reduceIte, FR, k1, wa, wb, wc]; first | done | rfl))⟩))
        | (refine CallV.upd (by simp only [hget, ↓reduceIte, FR, k1, wa, wb, wc]; first | done | rfl) (xs) (Sm.out ?_))
        | (refine WP.seq fun K hK => ?_)
        | (refine WP.region (rvc_sound _ _ (Sm.out ?_)))
        | (refine WP.drawC (c := 5) (ws := []) (ls := []) (bs := []) mixed (by decide +kernel) (by decide +kernel) (by decide +kernel) (Sm.out ?_))
        | (refine WP.drawK rfl mixed (by decide +kernel) (Sm.out ?_))
        | (refine Ob.mk ?_; focus (first | assumption | omega | decide | trivial | (intro hob; simp only [hob, ZF]; done) | (intros; (repeat' refine And.intro ?_ ?_) <;> first | assumption | omega | trivial | decide) | (intros; simp only [ZE] at *; (repeat' refine And.intro ?_ ?_) <;> first | assumption | omega | trivial)))
        | (refine And.intro (Ob.out ?_) ?_)
        | (refine WP.block ?_)
        | (refine WP.cond rfl (fun hc => ?_) (fun hc => ?_) <;> (try simp only [ZC, reduceCtorEq, ZD] at hc) <;> (try (exact absurd hc (by decide))) <;> (try (exfalso; omega)))
        | ((first | refine WP.skip ?_ | refine WP.exit ?_); simp only [SeqQ, BlkQ, LoopQ, BodyQ, ↓reduceIte, Nat.reduceEqDiff, reduceCtorEq, look, true_and])
        | (refine WP.ret (Sm.out ?_))
        | (first | refine ExG.no (Sm.out ?_) | refine Or.inl (ExG.no (Sm.out ?_)) | refine Or.inl (And.intro (fun hg => absurd hg (by decide)) (ExG.no (Sm.out ?_))))
        | (refine Rt.mk ?_; refine And.intro ?_ ?_ <;> (intro hg; first | exact absurd hg (by decide) | refine Sm.out ?_))
        | (refine Nu.mk ?_; first | (fail_if_success (have := nb1)); intro nb1 | (fail_if_success (have := nb2)); intro nb2 | (fail_if_success (have := nb3)); intro nb3 | intro nbz)
        | (refine Fr.mk ?_; intro hfr; replace FR := And.intro hfr FR; clear hfr; refine Sm.out ?_)
        | (refine Two.mk ?_ ?_)
        | (refine Cs.mk ?_; intro hcs; first | exact False.elim hcs | (exfalso; omega) | (refine Sm.out ?_))
        | go_step
        | omega
        | (simp only [maxLen_eq]; omega)
        | (refine Or.inr (Rt.mk ?_); refine And.intro ?_ ?_ <;> (intro hg; first | exact absurd hg (by decide) | refine Sm.out ?_))
      (refine OutQ.drop _ _ (perm1 (by simp only [hget, hdel, ↓reduceIte, if_true, if_false, FR]; first | done | rfl)) (by simp only [resv, ZK, look, loadv, loadn, loadnm, load1, load1m, hget, ↓reduceIte, Nat.reduceEqDiff, Nat.reduceAdd, Nat.reduceMul, Nat.reduceLeDiff, Nat.reduceLT, reduceCtorEq, TFRhI, FR]) ⟨(by simp only [resv, resA, ZK, look, loadv, loadn, loadnm, load1, load1m, hget, ↓reduceIte, Nat.reduceEqDiff, Nat.reduceAdd, Nat.reduceMul, Nat.reduceLeDiff, Nat.reduceLT, reduceCtorEq, TFRhI, FR]; first | done | rfl), rfl⟩)
    obtain ⟨ht64, hb2, hl2⟩ := nF_len hb1 n2
    have x2 : ACt Try.prog 42 [pt xb 0] [(xb, rd z1 false)] (fun r F' => r = iv .u64 (t : Int) ∧ F' = [(xb, rd z2 false)]) := by
      have := numX xb z1 hb1 (by omega); rw [n2] at this; exact this
    have x3 := badR xb z2 false
    have x4 := right_ct g t
    have x5 := room_ct nb1 nb2 w k ne now SG ST g t (by rw [hST]; exact hR.sum)
    have xx := spoil_x xb z2 hb2 (by omega)
    rcases hh with hgt | ⟨hgt, hh⟩
    · rw [decide_eq_false (show ¬ g ≤ t by omega)] at x4
      first | (have FRx := FR; clear FRx) | (have FR : ¬ ((1 : Nat) = 0) := Nat.one_ne_zero)
      repeat' first
        | (refine Sm.mk ?_; try simp -dsimp only [ZK, rvc, drawF, headN, pureH, stp, dvc, calleeOf, gcall, pev, eff, newB, okd, og, ogs, ogo, ogp, slv, bltv, opd, litv, strip, one, both, putE, St.put, look, gdOf, gdv, picka, pickv, pickw, binv, bini, bins, binb, binp, bina, shp, eqCells, unv, convv, nilv, faddv, addp, idxav, idxp, load1, load1m, loadn, loadnm, loadv, hget, hset, hrep, hdel, slicev, bnd, shift1, lenv, IntKind.bits, extractv, fieldv, indexv, min2v, max2v, mkiv, cellsA, fillA, buildv, stC, oneC, rowMB, intsA, plN, appE, appZ, appC, appNZ, appNC, VwL, srcC, srcZ, srcM, isBoolT, isPtrT, isSliceT, uOk, Value.oneCell', Nat.reducePow, Int.reducePow, Nat.reduceAdd, Nat.reduceMul, Nat.reduceSub, Nat.reduceLT, Nat.reduceLeDiff, Nat.reduceEqDiff, Nat.reduceBEq, Nat.reduceDiv, Nat.reduceMod, ↓reduceIte, reduceCtorEq, Int.reduceToNat, Int.reduceLT, Int.reduceLE, drawCF, xvc, xst, splitH, calleeV, putE, hdel, TFRhI, SeqQ, BlkQ, LoopQ, BodyQ, k1, wa, wb, wc, FR])
        | (refine CallV.upd (by simp only [hget, ↓reduceIte, FR, k1, wa, wb, wc]; first | done | rfl) (x1) (Sm.out ?_))
        | (refine CallV.upd (by simp only [hget, ↓reduceIte, FR, k1, wa, wb, wc]; first | done | rfl) (x2) (Sm.out ?_))
        | (refine CallV.updN (perm1 (by simp only [hget, hdel, ↓reduceIte, FR, k1, wa, wb, wc]; first | done | rfl)) (x3) (Sm.out ?_))
        | ((first | refine ExF.up ?_ (x3) (Sm.out ?_) | refine ExG.up ?_ (fun _ => x3) (Sm.out ?_) | refine ExG.upJ ?_ (fun _ => x3) (Sm.out ?_) | refine ExG.upI ?_ (fun _ => x3) (Ob.out ?_) (Sm.out ?_)); focus (exact ⟨_, (perm1 (by simp only [hget, hdel, ↓reduceIte, FR, k1, wa, wb, wc]; first | done | rfl))⟩))
        | (first | refine CallV.fn (x4) (Sm.out ?_) | refine ExF.mk (x4) (Sm.out ?_) | refine ExG.mk (fun _ => x4) (Sm.out ?_) | refine ExG.mkJ (fun _ => x4) (Sm.out ?_) | refine ExG.mkI (Ob.out ?_) (fun _ => x4) (Sm.out ?_))
        | (refine CallV.upd (by simp only [hget, ↓reduceIte, FR, k1, wa, wb, wc]; first | done | rfl) (xx) (Sm.out ?_))
        | (refine WP.seq fun K hK => ?_)
        | (refine WP.region (rvc_sound _ _ (Sm.out ?_)))
        | (refine WP.drawC (c := 5) (ws := []) (ls := []) (bs := []) mixed (by decide +kernel) (by decide +kernel) (by decide +kernel) (Sm.out ?_))
        | (refine WP.drawK rfl mixed (by decide +kernel) (Sm.out ?_))
        | (refine Ob.mk ?_; focus (first | assumption | omega | decide | trivial | (intro hob; simp only [hob, ZF]; done) | (intros; (repeat' refine And.intro ?_ ?_) <;> first | assumption | omega | trivial | decide) | (intros; simp only [ZE] at *; (repeat' refine And.intro ?_ ?_) <;> first | assumption | omega | trivial)))
        | (refine And.intro (Ob.out ?_) ?_)
        | (refine WP.block ?_)
        | (refine WP.cond rfl (fun hc => ?_) (fun hc => ?_) <;> (try simp only [ZC, reduceCtorEq, ZD] at hc) <;> (try (exact absurd hc (by decide))) <;> (try (exfalso; omega)))
        | ((first | refine WP.skip ?_ | refine WP.exit ?_); simp only [SeqQ, BlkQ, LoopQ, BodyQ, ↓reduceIte, Nat.reduceEqDiff, reduceCtorEq, look, true_and])
        | (refine WP.ret (Sm.out ?_))
        | (first | refine ExG.no (Sm.out ?_) | refine Or.inl (ExG.no (Sm.out ?_)) | refine Or.inl (And.intro (fun hg => absurd hg (by decide)) (ExG.no (Sm.out ?_))))
        | (refine Rt.mk ?_; refine And.intro ?_ ?_ <;> (intro hg; first | exact absurd hg (by decide) | refine Sm.out ?_))
        | (refine Nu.mk ?_; first | (fail_if_success (have := nb1)); intro nb1 | (fail_if_success (have := nb2)); intro nb2 | (fail_if_success (have := nb3)); intro nb3 | intro nbz)
        | (refine Fr.mk ?_; intro hfr; replace FR := And.intro hfr FR; clear hfr; refine Sm.out ?_)
        | (refine Two.mk ?_ ?_)
        | (refine Cs.mk ?_; intro hcs; first | exact False.elim hcs | (exfalso; omega) | (refine Sm.out ?_))
        | go_step
        | omega
        | (simp only [maxLen_eq]; omega)
        | (refine Or.inr (Rt.mk ?_); refine And.intro ?_ ?_ <;> (intro hg; first | exact absurd hg (by decide) | refine Sm.out ?_))
      (refine OutQ.drop _ _ (perm1 (by simp only [hget, hdel, ↓reduceIte, if_true, if_false, FR]; first | done | rfl)) (by simp only [resv, ZK, look, loadv, loadn, loadnm, load1, load1m, hget, ↓reduceIte, Nat.reduceEqDiff, Nat.reduceAdd, Nat.reduceMul, Nat.reduceLeDiff, Nat.reduceLT, reduceCtorEq, TFRhI, FR]) ⟨(by simp only [resv, resA, ZK, look, loadv, loadn, loadnm, load1, load1m, hget, ↓reduceIte, Nat.reduceEqDiff, Nat.reduceAdd, Nat.reduceMul, Nat.reduceLeDiff, Nat.reduceLT, reduceCtorEq, TFRhI, FR]; first | done | rfl), rfl⟩)
    rw [decide_eq_true hgt] at x4
    rcases hh with hov | ⟨hov, hh⟩
    · rw [decide_eq_false (show ¬ ST + t ≤ 9223372036854775807 by rw [hST]; omega)] at x5
      first | (have FRx := FR; clear FRx) | (have FR : ¬ ((1 : Nat) = 0) := Nat.one_ne_zero)
      repeat' first
        | (refine Sm.mk ?_; try simp -dsimp only [ZK, rvc, drawF, headN, pureH, stp, dvc, calleeOf, gcall, pev, eff, newB, okd, og, ogs, ogo, ogp, slv, bltv, opd, litv, strip, one, both, putE, St.put, look, gdOf, gdv, picka, pickv, pickw, binv, bini, bins, binb, binp, bina, shp, eqCells, unv, convv, nilv, faddv, addp, idxav, idxp, load1, load1m, loadn, loadnm, loadv, hget, hset, hrep, hdel, slicev, bnd, shift1, lenv, IntKind.bits, extractv, fieldv, indexv, min2v, max2v, mkiv, cellsA, fillA, buildv, stC, oneC, rowMB, intsA, plN, appE, appZ, appC, appNZ, appNC, VwL, srcC, srcZ, srcM, isBoolT, isPtrT, isSliceT, uOk, Value.oneCell', Nat.reducePow, Int.reducePow, Nat.reduceAdd, Nat.reduceMul, Nat.reduceSub, Nat.reduceLT, Nat.reduceLeDiff, Nat.reduceEqDiff, Nat.reduceBEq, Nat.reduceDiv, Nat.reduceMod, ↓reduceIte, reduceCtorEq, Int.reduceToNat, Int.reduceLT, Int.reduceLE, drawCF, xvc, xst, splitH, calleeV, putE, hdel, TFRhI, SeqQ, BlkQ, LoopQ, BodyQ, k1, wa, wb, wc, FR])
        | (refine CallV.upd (by simp only [hget, ↓reduceIte, FR, k1, wa, wb, wc]; first | done | rfl) (x1) (Sm.out ?_))
        | (refine CallV.upd (by simp only [hget, ↓reduceIte, FR, k1, wa, wb, wc]; first | done | rfl) (x2) (Sm.out ?_))
        | (refine CallV.updN (perm1 (by simp only [hget, hdel, ↓reduceIte, FR, k1, wa, wb, wc]; first | done | rfl)) (x3) (Sm.out ?_))
        | ((first | refine ExF.up ?_ (x3) (Sm.out ?_) | refine ExG.up ?_ (fun _ => x3) (Sm.out ?_) | refine ExG.upJ ?_ (fun _ => x3) (Sm.out ?_) | refine ExG.upI ?_ (fun _ => x3) (Ob.out ?_) (Sm.out ?_)); focus (exact ⟨_, (perm1 (by simp only [hget, hdel, ↓reduceIte, FR, k1, wa, wb, wc]; first | done | rfl))⟩))
        | (first | refine CallV.fn (x4) (Sm.out ?_) | refine ExF.mk (x4) (Sm.out ?_) | refine ExG.mk (fun _ => x4) (Sm.out ?_) | refine ExG.mkJ (fun _ => x4) (Sm.out ?_) | refine ExG.mkI (Ob.out ?_) (fun _ => x4) (Sm.out ?_))
        | (refine CallV.updN (perm1 (by simp only [hget, hdel, ↓reduceIte, FR, k1, wa, wb, wc]; first | done | rfl)) (x5) (Sm.out ?_))
        | ((first | refine ExF.up ?_ (x5) (Sm.out ?_) | refine ExG.up ?_ (fun _ => x5) (Sm.out ?_) | refine ExG.upJ ?_ (fun _ => x5) (Sm.out ?_) | refine ExG.upI ?_ (fun _ => x5) (Ob.out ?_) (Sm.out ?_)); focus (exact ⟨_, (perm1 (by simp only [hget, hdel, ↓reduceIte, FR, k1, wa, wb, wc]; first | done | rfl))⟩))
        | (refine CallV.upd (by simp only [hget, ↓reduceIte, FR, k1, wa, wb, wc]; first | done | rfl) (xx) (Sm.out ?_))
        | (refine WP.seq fun K hK => ?_)
        | (refine WP.region (rvc_sound _ _ (Sm.out ?_)))
        | (refine WP.drawC (c := 5) (ws := []) (ls := []) (bs := []) mixed (by decide +kernel) (by decide +kernel) (by decide +kernel) (Sm.out ?_))
        | (refine WP.drawK rfl mixed (by decide +kernel) (Sm.out ?_))
        | (refine Ob.mk ?_; focus (first | assumption | omega | decide | trivial | (intro hob; simp only [hob, ZF]; done) | (intros; (repeat' refine And.intro ?_ ?_) <;> first | assumption | omega | trivial | decide) | (intros; simp only [ZE] at *; (repeat' refine And.intro ?_ ?_) <;> first | assumption | omega | trivial)))
        | (refine And.intro (Ob.out ?_) ?_)
        | (refine WP.block ?_)
        | (refine WP.cond rfl (fun hc => ?_) (fun hc => ?_) <;> (try simp only [ZC, reduceCtorEq, ZD] at hc) <;> (try (exact absurd hc (by decide))) <;> (try (exfalso; omega)))
        | ((first | refine WP.skip ?_ | refine WP.exit ?_); simp only [SeqQ, BlkQ, LoopQ, BodyQ, ↓reduceIte, Nat.reduceEqDiff, reduceCtorEq, look, true_and])
        | (refine WP.ret (Sm.out ?_))
        | (first | refine ExG.no (Sm.out ?_) | refine Or.inl (ExG.no (Sm.out ?_)) | refine Or.inl (And.intro (fun hg => absurd hg (by decide)) (ExG.no (Sm.out ?_))))
        | (refine Rt.mk ?_; refine And.intro ?_ ?_ <;> (intro hg; first | exact absurd hg (by decide) | refine Sm.out ?_))
        | (refine Nu.mk ?_; first | (fail_if_success (have := nb1)); intro nb1 | (fail_if_success (have := nb2)); intro nb2 | (fail_if_success (have := nb3)); intro nb3 | intro nbz)
        | (refine Fr.mk ?_; intro hfr; replace FR := And.intro hfr FR; clear hfr; refine Sm.out ?_)
        | (refine Two.mk ?_ ?_)
        | (refine Cs.mk ?_; intro hcs; first | exact False.elim hcs | (exfalso; omega) | (refine Sm.out ?_))
        | go_step
        | omega
        | (simp only [maxLen_eq]; omega)
        | (refine Or.inr (Rt.mk ?_); refine And.intro ?_ ?_ <;> (intro hg; first | exact absurd hg (by decide) | refine Sm.out ?_))
      (refine OutQ.drop _ _ (perm1 (by simp only [hget, hdel, ↓reduceIte, if_true, if_false, FR]; first | done | rfl)) (by simp only [resv, ZK, look, loadv, loadn, loadnm, load1, load1m, hget, ↓reduceIte, Nat.reduceEqDiff, Nat.reduceAdd, Nat.reduceMul, Nat.reduceLeDiff, Nat.reduceLT, reduceCtorEq, TFRhI, FR]) ⟨(by simp only [resv, resA, ZK, look, loadv, loadn, loadnm, load1, load1m, hget, ↓reduceIte, Nat.reduceEqDiff, Nat.reduceAdd, Nat.reduceMul, Nat.reduceLeDiff, Nat.reduceLT, reduceCtorEq, TFRhI, FR]; first | done | rfl), rfl⟩)
    rw [decide_eq_true (show ST + t ≤ 9223372036854775807 by rw [hST]; exact hov)] at x5
    by_cases hk : k ≤ ne + 1 + i
    · have hh := hh.resolve_right (fun h => h.1 (by rw [← hnn]; exact hk))
      obtain ⟨m, hm⟩ : ∃ m, m = ne + 1 + i - k := ⟨_, rfl⟩
      have em : now / w + 1 + i - k = m := by rw [← hnn, hm]
      rw [em] at hh
      have wd : (ne : Int) + 1 + i - k = (m : Int) := by omega
      rw [wd] at wc
      have d1 : decide ((m : Int) < 0) = false := by simp
      have d2 : decide ((m : Int) ≥ 0) = true := by simp
      have x6 := at_ct nb1 nb2 w k ne now SG ST m hk1 hk2 (by omega)
      have x7 := grow_step nb1 nb2 w k now m i g t E (by omega) hw hk1 hk2 hn hR hgt hov (by rw [← hnn]; omega)
      have hR' := hR.add hw hlt (by rw [← hnn]; exact hk) hgt hov
      rw [em] at hR'
      rw [← hnn] at x7
      obtain ⟨SG', hSG'⟩ : ∃ SG', sG (winP now w k) (E ++ [⟨m * w, g, t⟩]) = SG' := ⟨_, rfl⟩
      obtain ⟨ST', hST'⟩ : ∃ ST', sT (winP now w k) (E ++ [⟨m * w, g, t⟩]) = ST' := ⟨_, rfl⟩
      obtain ⟨LB', hLB'⟩ : ∃ LB', lbM k (slG ne w k (E ++ [⟨m * w, g, t⟩])) (slT ne w k (E ++ [⟨m * w, g, t⟩])) = LB' := ⟨_, rfl⟩
      obtain ⟨M, hM⟩ : ∃ M, M = m % k * 2 := ⟨_, rfl⟩
      rw [hSG', hST', hLB', ← hSG, ← hST, ← hLB, ← hM] at x7
      rw [← hM] at x6
      clear hSG hST hLB hM hnn
      first | (have FRx := FR; clear FRx) | (have FR : ¬ ((1 : Nat) = 0) := Nat.one_ne_zero)
      repeat' first
        | (refine Sm.mk ?_; try simp -dsimp only [ZK, rvc, drawF, headN, pureH, stp, dvc, calleeOf, gcall, pev, eff, newB, okd, og, ogs, ogo, ogp, slv, bltv, opd, litv, strip, one, both, putE, St.put, look, gdOf, gdv, picka, pickv, pickw, binv, bini, bins, binb, binp, bina, shp, eqCells, unv, convv, nilv, faddv, addp, idxav, idxp, load1, load1m, loadn, loadnm, loadv, hget, hset, hrep, hdel, slicev, bnd, shift1, lenv, IntKind.bits, extractv, fieldv, indexv, min2v, max2v, mkiv, cellsA, fillA, buildv, stC, oneC, rowMB, intsA, plN, appE, appZ, appC, appNZ, appNC, VwL, srcC, srcZ, srcM, isBoolT, isPtrT, isSliceT, uOk, Value.oneCell', Nat.reducePow, Int.reducePow, Nat.reduceAdd, Nat.reduceMul, Nat.reduceSub, Nat.reduceLT, Nat.reduceLeDiff, Nat.reduceEqDiff, Nat.reduceBEq, Nat.reduceDiv, Nat.reduceMod, ↓reduceIte, reduceCtorEq, Int.reduceToNat, Int.reduceLT, Int.reduceLE, drawCF, xvc, xst, splitH, calleeV, putE, hdel, TFRhI, SeqQ, BlkQ, LoopQ, BodyQ, k1, w1, wa, wb, wc, d1, d2, FR])
        | (refine CallV.upd (by simp only [hget, ↓reduceIte, FR, k1, w1, wa, wb, wc, d1, d2]; first | done | rfl) (x1) (Sm.out ?_))
        | (refine CallV.upd (by simp only [hget, ↓reduceIte, FR, k1, w1, wa, wb, wc, d1, d2]; first | done | rfl) (x2) (Sm.out ?_))
        | (refine CallV.updN (perm1 (by simp only [hget, hdel, ↓reduceIte, FR, k1, w1, wa, wb, wc, d1, d2]; first | done | rfl)) (x3) (Sm.out ?_))
        | ((first | refine ExF.up ?_ (x3) (Sm.out ?_) | refine ExG.up ?_ (fun _ => x3) (Sm.out ?_) | refine ExG.upJ ?_ (fun _ => x3) (Sm.out ?_) | refine ExG.upI ?_ (fun _ => x3) (Ob.out ?_) (Sm.out ?_)); focus (exact ⟨_, (perm1 (by simp only [hget, hdel, ↓reduceIte, FR, k1, w1, wa, wb, wc, d1, d2]; first | done | rfl))⟩))
        | (first | refine CallV.fn (x4) (Sm.out ?_) | refine ExF.mk (x4) (Sm.out ?_) | refine ExG.mk (fun _ => x4) (Sm.out ?_) | refine ExG.mkJ (fun _ => x4) (Sm.out ?_) | refine ExG.mkI (Ob.out ?_) (fun _ => x4) (Sm.out ?_))
        | (refine CallV.updN (perm1 (by simp only [hget, hdel, ↓reduceIte, FR, k1, w1, wa, wb, wc, d1, d2]; first | done | rfl)) (x5) (Sm.out ?_))
        | ((first | refine ExF.up ?_ (x5) (Sm.out ?_) | refine ExG.up ?_ (fun _ => x5) (Sm.out ?_) | refine ExG.upJ ?_ (fun _ => x5) (Sm.out ?_) | refine ExG.upI ?_ (fun _ => x5) (Ob.out ?_) (Sm.out ?_)); focus (exact ⟨_, (perm1 (by simp only [hget, hdel, ↓reduceIte, FR, k1, w1, wa, wb, wc, d1, d2]; first | done | rfl))⟩))
        | (refine CallV.updN (perm1 (by simp only [hget, hdel, ↓reduceIte, FR, k1, w1, wa, wb, wc, d1, d2]; first | done | rfl)) (x6) (Sm.out ?_))
        | ((first | refine ExF.up ?_ (x6) (Sm.out ?_) | refine ExG.up ?_ (fun _ => x6) (Sm.out ?_) | refine ExG.upJ ?_ (fun _ => x6) (Sm.out ?_) | refine ExG.upI ?_ (fun _ => x6) (Ob.out ?_) (Sm.out ?_)); focus (exact ⟨_, (perm1 (by simp only [hget, hdel, ↓reduceIte, FR, k1, w1, wa, wb, wc, d1, d2]; first | done | rfl))⟩))
        | (refine CallV.updN (perm2 (by simp only [hget, hdel, ↓reduceIte, FR, k1, w1, wa, wb, wc, d1, d2]; first | done | rfl) (by simp only [hget, hdel, ↓reduceIte, FR, k1, w1, wa, wb, wc, d1, d2]; first | done | rfl)) (x7) (Sm.out ?_))
        | (refine ExW.mk (perm2 (by simp only [hget, hdel, ↓reduceIte, FR, k1, w1, wa, wb, wc, d1, d2]; first | done | rfl) (by simp only [hget, hdel, ↓reduceIte, FR, k1, w1, wa, wb, wc, d1, d2]; first | done | rfl)) (x7) rfl (Sm.out ?_))
        | (refine WP.seq fun K hK => ?_)
        | (refine WP.region (rvc_sound _ _ (Sm.out ?_)))
        | (refine WP.drawC (c := 5) (ws := []) (ls := []) (bs := []) mixed (by decide +kernel) (by decide +kernel) (by decide +kernel) (Sm.out ?_))
        | (refine WP.drawK rfl mixed (by decide +kernel) (Sm.out ?_))
        | (refine Ob.mk ?_; focus (first | assumption | omega | decide | trivial | (intro hob; simp only [hob, ZF]; done) | (intros; (repeat' refine And.intro ?_ ?_) <;> first | assumption | omega | trivial | decide) | (intros; simp only [ZE] at *; (repeat' refine And.intro ?_ ?_) <;> first | assumption | omega | trivial)))
        | (refine And.intro (Ob.out ?_) ?_)
        | (refine WP.block ?_)
        | (refine WP.cond rfl (fun hc => ?_) (fun hc => ?_) <;> (try simp only [ZC, reduceCtorEq, ZD] at hc) <;> (try (exact absurd hc (by decide))) <;> (try (exfalso; omega)))
        | ((first | refine WP.skip ?_ | refine WP.exit ?_); simp only [SeqQ, BlkQ, LoopQ, BodyQ, ↓reduceIte, Nat.reduceEqDiff, reduceCtorEq, look, true_and])
        | (refine WP.ret (Sm.out ?_))
        | (first | refine ExG.no (Sm.out ?_) | refine Or.inl (ExG.no (Sm.out ?_)) | refine Or.inl (And.intro (fun hg => absurd hg (by decide)) (ExG.no (Sm.out ?_))))
        | (refine Rt.mk ?_; refine And.intro ?_ ?_ <;> (intro hg; first | exact absurd hg (by decide) | refine Sm.out ?_))
        | (refine Nu.mk ?_; first | (fail_if_success (have := nb1)); intro nb1 | (fail_if_success (have := nb2)); intro nb2 | (fail_if_success (have := nb3)); intro nb3 | intro nbz)
        | (refine Fr.mk ?_; intro hfr; replace FR := And.intro hfr FR; clear hfr; refine Sm.out ?_)
        | (refine Two.mk ?_ ?_)
        | (refine Cs.mk ?_; intro hcs; first | exact False.elim hcs | (exfalso; omega) | (refine Sm.out ?_))
        | go_step
        | omega
        | (simp only [maxLen_eq]; omega)
        | (refine Or.inr (Rt.mk ?_); refine And.intro ?_ ?_ <;> (intro hg; first | exact absurd hg (by decide) | refine Sm.out ?_))
      exact ⟨⟨i + 1, E ++ [⟨m * w, g, t⟩], z2⟩, ⟨by simp only; omega, hR', hb2, by simp only; omega, by simp only; rw [hj2]; exact hh.2⟩, by simp only; omega, (Sub.pick (by simp [pickB, hget, hdel, FR, hSG', hST', hLB']) (by simp [look, hSG', hST', hLB']))⟩
    · have hh := (hh.resolve_left (fun h => hk (by rw [hnn]; exact h.1))).2
      have d1 : decide ((ne : Int) + 1 + i - k < 0) = true := by simp; omega
      have d2 : decide ((ne : Int) + 1 + i - k ≥ 0) = false := by simp; omega
      rcases hh with h0 | ⟨h0, h9⟩
      · have zz : ((g : Int) == 0 && (t : Int) == 0) = false := by
          rw [Bool.and_eq_false_iff, beq_eq_false_iff_ne, beq_eq_false_iff_ne]; omega
        first | (have FRx := FR; clear FRx) | (have FR : ¬ ((1 : Nat) = 0) := Nat.one_ne_zero)
        repeat' first
          | (refine Sm.mk ?_; try simp -dsimp only [ZK, rvc, drawF, headN, pureH, stp, dvc, calleeOf, gcall, pev, eff, newB, okd, og, ogs, ogo, ogp, slv, bltv, opd, litv, strip, one, both, putE, St.put, look, gdOf, gdv, picka, pickv, pickw, binv, bini, bins, binb, binp, bina, shp, eqCells, unv, convv, nilv, faddv, addp, idxav, idxp, load1, load1m, loadn, loadnm, loadv, hget, hset, hrep, hdel, slicev, bnd, shift1, lenv, IntKind.bits, extractv, fieldv, indexv, min2v, max2v, mkiv, cellsA, fillA, buildv, stC, oneC, rowMB, intsA, plN, appE, appZ, appC, appNZ, appNC, VwL, srcC, srcZ, srcM, isBoolT, isPtrT, isSliceT, uOk, Value.oneCell', Nat.reducePow, Int.reducePow, Nat.reduceAdd, Nat.reduceMul, Nat.reduceSub, Nat.reduceLT, Nat.reduceLeDiff, Nat.reduceEqDiff, Nat.reduceBEq, Nat.reduceDiv, Nat.reduceMod, ↓reduceIte, reduceCtorEq, Int.reduceToNat, Int.reduceLT, Int.reduceLE, drawCF, xvc, xst, splitH, calleeV, putE, hdel, TFRhI, SeqQ, BlkQ, LoopQ, BodyQ, k1, wa, wb, wc, d1, d2, zz, fe43, FR])
          | (refine CallV.upd (by simp only [hget, ↓reduceIte, FR, k1, wa, wb, wc, d1, d2, zz, fe43]; first | done | rfl) (x1) (Sm.out ?_))
          | (refine CallV.upd (by simp only [hget, ↓reduceIte, FR, k1, wa, wb, wc, d1, d2, zz, fe43]; first | done | rfl) (x2) (Sm.out ?_))
          | (refine CallV.updN (perm1 (by simp only [hget, hdel, ↓reduceIte, FR, k1, wa, wb, wc, d1, d2, zz, fe43]; first | done | rfl)) (x3) (Sm.out ?_))
          | ((first | refine ExF.up ?_ (x3) (Sm.out ?_) | refine ExG.up ?_ (fun _ => x3) (Sm.out ?_) | refine ExG.upJ ?_ (fun _ => x3) (Sm.out ?_) | refine ExG.upI ?_ (fun _ => x3) (Ob.out ?_) (Sm.out ?_)); focus (exact ⟨_, (perm1 (by simp only [hget, hdel, ↓reduceIte, FR, k1, wa, wb, wc, d1, d2, zz, fe43]; first | done | rfl))⟩))
          | (first | refine CallV.fn (x4) (Sm.out ?_) | refine ExF.mk (x4) (Sm.out ?_) | refine ExG.mk (fun _ => x4) (Sm.out ?_) | refine ExG.mkJ (fun _ => x4) (Sm.out ?_) | refine ExG.mkI (Ob.out ?_) (fun _ => x4) (Sm.out ?_))
          | (refine CallV.updN (perm1 (by simp only [hget, hdel, ↓reduceIte, FR, k1, wa, wb, wc, d1, d2, zz, fe43]; first | done | rfl)) (x5) (Sm.out ?_))
          | ((first | refine ExF.up ?_ (x5) (Sm.out ?_) | refine ExG.up ?_ (fun _ => x5) (Sm.out ?_) | refine ExG.upJ ?_ (fun _ => x5) (Sm.out ?_) | refine ExG.upI ?_ (fun _ => x5) (Ob.out ?_) (Sm.out ?_)); focus (exact ⟨_, (perm1 (by simp only [hget, hdel, ↓reduceIte, FR, k1, wa, wb, wc, d1, d2, zz, fe43]; first | done | rfl))⟩))
          | (refine CallV.upd (by simp only [hget, ↓reduceIte, FR, k1, wa, wb, wc, d1, d2, zz, fe43]; first | done | rfl) (xx) (Sm.out ?_))
          | (refine WP.seq fun K hK => ?_)
          | (refine WP.region (rvc_sound _ _ (Sm.out ?_)))
          | (refine WP.drawC (c := 5) (ws := []) (ls := []) (bs := []) mixed (by decide +kernel) (by decide +kernel) (by decide +kernel) (Sm.out ?_))
          | (refine WP.drawK rfl mixed (by decide +kernel) (Sm.out ?_))
          | (refine Ob.mk ?_; focus (first | assumption | omega | decide | trivial | (intro hob; simp only [hob, ZF]; done) | (intros; (repeat' refine And.intro ?_ ?_) <;> first | assumption | omega | trivial | decide) | (intros; simp only [ZE] at *; (repeat' refine And.intro ?_ ?_) <;> first | assumption | omega | trivial)))
          | (refine And.intro (Ob.out ?_) ?_)
          | (refine WP.block ?_)
          | (refine WP.cond rfl (fun hc => ?_) (fun hc => ?_) <;> (try simp only [ZC, reduceCtorEq, ZD] at hc) <;> (try (exact absurd hc (by decide))) <;> (try (exfalso; omega)))
          | ((first | refine WP.skip ?_ | refine WP.exit ?_); simp only [SeqQ, BlkQ, LoopQ, BodyQ, ↓reduceIte, Nat.reduceEqDiff, reduceCtorEq, look, true_and])
          | (refine WP.ret (Sm.out ?_))
          | (first | refine ExG.no (Sm.out ?_) | refine Or.inl (ExG.no (Sm.out ?_)) | refine Or.inl (And.intro (fun hg => absurd hg (by decide)) (ExG.no (Sm.out ?_))))
          | (refine Rt.mk ?_; refine And.intro ?_ ?_ <;> (intro hg; first | exact absurd hg (by decide) | refine Sm.out ?_))
          | (refine Nu.mk ?_; first | (fail_if_success (have := nb1)); intro nb1 | (fail_if_success (have := nb2)); intro nb2 | (fail_if_success (have := nb3)); intro nb3 | intro nbz)
          | (refine Fr.mk ?_; intro hfr; replace FR := And.intro hfr FR; clear hfr; refine Sm.out ?_)
          | (refine Two.mk ?_ ?_)
          | (refine Cs.mk ?_; intro hcs; first | exact False.elim hcs | (exfalso; omega) | (refine Sm.out ?_))
          | go_step
          | omega
          | (simp only [maxLen_eq]; omega)
          | (refine Or.inr (Rt.mk ?_); refine And.intro ?_ ?_ <;> (intro hg; first | exact absurd hg (by decide) | refine Sm.out ?_))
        (refine OutQ.drop _ _ (perm1 (by simp only [hget, hdel, ↓reduceIte, if_true, if_false, FR]; first | done | rfl)) (by simp only [resv, ZK, look, loadv, loadn, loadnm, load1, load1m, hget, ↓reduceIte, Nat.reduceEqDiff, Nat.reduceAdd, Nat.reduceMul, Nat.reduceLeDiff, Nat.reduceLT, reduceCtorEq, TFRhI, FR]) ⟨(by simp only [resv, resA, ZK, look, loadv, loadn, loadnm, load1, load1m, hget, ↓reduceIte, Nat.reduceEqDiff, Nat.reduceAdd, Nat.reduceMul, Nat.reduceLeDiff, Nat.reduceLT, reduceCtorEq, TFRhI, FR]; first | done | rfl), rfl⟩)
      · obtain ⟨rfl, rfl⟩ := h0
        have z5 : ((0 : Int) == 0) = true := by decide
        have y0 : ((0 : Nat) : Int) = 0 := rfl
        rw [y0] at x1 x2
        have x4 : ACt Try.prog 37 [.agg [iv .u64 0, iv .u64 0]] [] (Fn (bv true)) := x4
        have x5 : ACt Try.prog 38 [pt nb1 0, .agg [iv .u64 0, iv .u64 0]] [(nb1, rbM nb2 w k ne now SG ST)] (fun r F' => r = bv true ∧ F' = [(nb1, rbM nb2 w k ne now SG ST)]) := x5
        first | (have FRx := FR; clear FRx) | (have FR : ¬ ((1 : Nat) = 0) := Nat.one_ne_zero)
        repeat' first
          | (refine Sm.mk ?_; try simp -dsimp only [ZK, rvc, drawF, headN, pureH, stp, dvc, calleeOf, gcall, pev, eff, newB, okd, og, ogs, ogo, ogp, slv, bltv, opd, litv, strip, one, both, putE, St.put, look, gdOf, gdv, picka, pickv, pickw, binv, bini, bins, binb, binp, bina, shp, eqCells, unv, convv, nilv, faddv, addp, idxav, idxp, load1, load1m, loadn, loadnm, loadv, hget, hset, hrep, hdel, slicev, bnd, shift1, lenv, IntKind.bits, extractv, fieldv, indexv, min2v, max2v, mkiv, cellsA, fillA, buildv, stC, oneC, rowMB, intsA, plN, appE, appZ, appC, appNZ, appNC, VwL, srcC, srcZ, srcM, isBoolT, isPtrT, isSliceT, uOk, Value.oneCell', Nat.reducePow, Int.reducePow, Nat.reduceAdd, Nat.reduceMul, Nat.reduceSub, Nat.reduceLT, Nat.reduceLeDiff, Nat.reduceEqDiff, Nat.reduceBEq, Nat.reduceDiv, Nat.reduceMod, ↓reduceIte, reduceCtorEq, Int.reduceToNat, Int.reduceLT, Int.reduceLE, drawCF, xvc, xst, splitH, calleeV, putE, hdel, TFRhI, SeqQ, BlkQ, LoopQ, BodyQ, k1, w1, wa, wb, wc, d1, d2, z5, fe43, FR])
          | (refine CallV.upd (by simp only [hget, ↓reduceIte, FR, k1, w1, wa, wb, wc, d1, d2, z5, fe43]; first | done | rfl) (x1) (Sm.out ?_))
          | (refine CallV.upd (by simp only [hget, ↓reduceIte, FR, k1, w1, wa, wb, wc, d1, d2, z5, fe43]; first | done | rfl) (x2) (Sm.out ?_))
          | (refine CallV.updN (perm1 (by simp only [hget, hdel, ↓reduceIte, FR, k1, w1, wa, wb, wc, d1, d2, z5, fe43]; first | done | rfl)) (x3) (Sm.out ?_))
          | ((first | refine ExF.up ?_ (x3) (Sm.out ?_) | refine ExG.up ?_ (fun _ => x3) (Sm.out ?_) | refine ExG.upJ ?_ (fun _ => x3) (Sm.out ?_) | refine ExG.upI ?_ (fun _ => x3) (Ob.out ?_) (Sm.out ?_)); focus (exact ⟨_, (perm1 (by simp only [hget, hdel, ↓reduceIte, FR, k1, w1, wa, wb, wc, d1, d2, z5, fe43]; first | done | rfl))⟩))
          | (first | refine CallV.fn (x4) (Sm.out ?_) | refine ExF.mk (x4) (Sm.out ?_) | refine ExG.mk (fun _ => x4) (Sm.out ?_) | refine ExG.mkJ (fun _ => x4) (Sm.out ?_) | refine ExG.mkI (Ob.out ?_) (fun _ => x4) (Sm.out ?_))
          | (refine CallV.updN (perm1 (by simp only [hget, hdel, ↓reduceIte, FR, k1, w1, wa, wb, wc, d1, d2, z5, fe43]; first | done | rfl)) (x5) (Sm.out ?_))
          | ((first | refine ExF.up ?_ (x5) (Sm.out ?_) | refine ExG.up ?_ (fun _ => x5) (Sm.out ?_) | refine ExG.upJ ?_ (fun _ => x5) (Sm.out ?_) | refine ExG.upI ?_ (fun _ => x5) (Ob.out ?_) (Sm.out ?_)); focus (exact ⟨_, (perm1 (by simp only [hget, hdel, ↓reduceIte, FR, k1, w1, wa, wb, wc, d1, d2, z5, fe43]; first | done | rfl))⟩))
          | (refine WP.seq fun K hK => ?_)
          | (refine WP.region (rvc_sound _ _ (Sm.out ?_)))
          | (refine WP.drawC (c := 5) (ws := []) (ls := []) (bs := []) mixed (by decide +kernel) (by decide +kernel) (by decide +kernel) (Sm.out ?_))
          | (refine WP.drawK rfl mixed (by decide +kernel) (Sm.out ?_))
          | (refine Ob.mk ?_; focus (first | assumption | omega | decide | trivial | (intro hob; simp only [hob, ZF]; done) | (intros; (repeat' refine And.intro ?_ ?_) <;> first | assumption | omega | trivial | decide) | (intros; simp only [ZE] at *; (repeat' refine And.intro ?_ ?_) <;> first | assumption | omega | trivial)))
          | (refine And.intro (Ob.out ?_) ?_)
          | (refine WP.block ?_)
          | (refine WP.cond rfl (fun hc => ?_) (fun hc => ?_) <;> (try simp only [ZC, reduceCtorEq, ZD] at hc) <;> (try (exact absurd hc (by decide))) <;> (try (exfalso; omega)))
          | ((first | refine WP.skip ?_ | refine WP.exit ?_); simp only [SeqQ, BlkQ, LoopQ, BodyQ, ↓reduceIte, Nat.reduceEqDiff, reduceCtorEq, look, true_and])
          | (refine WP.ret (Sm.out ?_))
          | (first | refine ExG.no (Sm.out ?_) | refine Or.inl (ExG.no (Sm.out ?_)) | refine Or.inl (And.intro (fun hg => absurd hg (by decide)) (ExG.no (Sm.out ?_))))
          | (refine Rt.mk ?_; refine And.intro ?_ ?_ <;> (intro hg; first | exact absurd hg (by decide) | refine Sm.out ?_))
          | (refine Nu.mk ?_; first | (fail_if_success (have := nb1)); intro nb1 | (fail_if_success (have := nb2)); intro nb2 | (fail_if_success (have := nb3)); intro nb3 | intro nbz)
          | (refine Fr.mk ?_; intro hfr; replace FR := And.intro hfr FR; clear hfr; refine Sm.out ?_)
          | (refine Two.mk ?_ ?_)
          | (refine Cs.mk ?_; intro hcs; first | exact False.elim hcs | (exfalso; omega) | (refine Sm.out ?_))
          | go_step
          | omega
          | (simp only [maxLen_eq]; omega)
          | (refine Or.inr (Rt.mk ?_); refine And.intro ?_ ?_ <;> (intro hg; first | exact absurd hg (by decide) | refine Sm.out ?_))
        exact ⟨⟨i + 1, E, z2⟩, ⟨by simp only; omega, hR.next, hb2, by simp only; omega, by simp only; rw [hj2]; exact h9⟩, by simp only; omega, (Sub.pick (by simp [pickB, hget, hdel, FR, ← hSG, ← hST, ← hLB]) (by simp [look, ← hSG, ← hST, ← hLB]))⟩
  · obtain rfl : i = k := by omega
    rw [Nat.sub_self] at hres
    simp [rdE] at hres
end Go.Proofs.Ytbnkmhlnoaebcaa
namespace Go.Proofs.Ytbnkmhlnoaebcaa
open Go Wi
set_option linter.unusedVariables false
set_option linter.unusedSimpArgs false
theorem TFRhJ : (((((((type_of% tyc0) ∧ (type_of% tyc2)) ∧ ((type_of% zmb2) ∧ (type_of% tyc3))) ∧ (((type_of% zmb3) ∧ (type_of% tyc4)) ∧ ((type_of% zmb4) ∧ (type_of% tyc5)))) ∧ ((((type_of% zmb5) ∧ (type_of% tyc35)) ∧ ((type_of% zmb35) ∧ (type_of% tyc36))) ∧ (((type_of% elt36) ∧ (type_of% mkz36)) ∧ ((type_of% mkc36) ∧ (type_of% apT36))))) ∧ (((((type_of% elk36) ∧ (type_of% zmb36)) ∧ ((type_of% tyc38) ∧ (type_of% foff38_0))) ∧ (((type_of% fpart38_0) ∧ (type_of% foff38_1)) ∧ ((type_of% fpart38_1) ∧ (type_of% foff38_2)))) ∧ ((((type_of% fpart38_2) ∧ (type_of% foff38_3)) ∧ ((type_of% fpart38_3) ∧ (type_of% zmb38))) ∧ (((type_of% bldT38) ∧ (type_of% tyc41)) ∧ ((type_of% zmb41) ∧ ((type_of% tyc43) ∧ (type_of% foff43_0))))))) ∧ ((((((type_of% fpart43_0) ∧ (type_of% foff43_1)) ∧ ((type_of% fpart43_1) ∧ (type_of% fe43))) ∧ (((type_of% zmb43) ∧ (type_of% bldT43)) ∧ ((type_of% tyc50) ∧ (type_of% elt50)))) ∧ ((((type_of% mkz50) ∧ (type_of% apT50)) ∧ ((type_of% elk50) ∧ (type_of% zmb50))) ∧ (((type_of% tyc70) ∧ (type_of% foff70_0)) ∧ ((type_of% fpart70_0) ∧ (type_of% foff70_1))))) ∧ (((((type_of% fpart70_1) ∧ (type_of% zmb70)) ∧ ((type_of% bldT70) ∧ (type_of% tyc79))) ∧ (((type_of% Try.underlying0) ∧ (type_of% Try.underlying2)) ∧ ((type_of% Try.underlying3) ∧ (type_of% Try.underlying4)))) ∧ ((((type_of% Try.underlying5) ∧ (type_of% Try.underlying35)) ∧ ((type_of% Try.underlying36) ∧ (type_of% Try.underlying38))) ∧ (((type_of% Try.underlying41) ∧ (type_of% Try.underlying43)) ∧ ((type_of% Try.underlying50) ∧ ((type_of% Try.underlying70) ∧ (type_of% Try.underlying79)))))))) :=
  ⟨⟨⟨⟨⟨⟨tyc0, tyc2⟩, ⟨zmb2, tyc3⟩⟩, ⟨⟨zmb3, tyc4⟩, ⟨zmb4, tyc5⟩⟩⟩, ⟨⟨⟨zmb5, tyc35⟩, ⟨zmb35, tyc36⟩⟩, ⟨⟨elt36, mkz36⟩, ⟨mkc36, apT36⟩⟩⟩⟩, ⟨⟨⟨⟨elk36, zmb36⟩, ⟨tyc38, foff38_0⟩⟩, ⟨⟨fpart38_0, foff38_1⟩, ⟨fpart38_1, foff38_2⟩⟩⟩, ⟨⟨⟨fpart38_2, foff38_3⟩, ⟨fpart38_3, zmb38⟩⟩, ⟨⟨bldT38, tyc41⟩, ⟨zmb41, ⟨tyc43, foff43_0⟩⟩⟩⟩⟩⟩, ⟨⟨⟨⟨⟨fpart43_0, foff43_1⟩, ⟨fpart43_1, fe43⟩⟩, ⟨⟨zmb43, bldT43⟩, ⟨tyc50, elt50⟩⟩⟩, ⟨⟨⟨mkz50, apT50⟩, ⟨elk50, zmb50⟩⟩, ⟨⟨tyc70, foff70_0⟩, ⟨fpart70_0, foff70_1⟩⟩⟩⟩, ⟨⟨⟨⟨fpart70_1, zmb70⟩, ⟨bldT70, tyc79⟩⟩, ⟨⟨Try.underlying0, Try.underlying2⟩, ⟨Try.underlying3, Try.underlying4⟩⟩⟩, ⟨⟨⟨Try.underlying5, Try.underlying35⟩, ⟨Try.underlying36, Try.underlying38⟩⟩, ⟨⟨Try.underlying41, Try.underlying43⟩, ⟨Try.underlying50, ⟨Try.underlying70, Try.underlying79⟩⟩⟩⟩⟩⟩⟩
theorem drop_next {Z q : List Int} {at_ n : Nat} (hb : By Z) (h : nF (Z.drop at_) = some (n, q)) : Z.drop (Z.length - q.length) = q ∧ q.length ≤ Z.length := by
  obtain ⟨_, _, hl, hq⟩ := nF_bd (hb.drop at_) h
  have hlen : (Z.drop at_).length = Z.length - at_ := by simp
  rw [hlen] at hl hq
  rw [List.drop_drop] at hq
  refine ⟨?_, by omega⟩
  rw [show Z.length - q.length = at_ + (Z.length - at_ - q.length) by omega]
  exact hq.symm
abbrev rb3 : AV := .tup [.lit (.pointer none), iv .i64 0, bv false]
set_option maxRecDepth 8000 in
set_option maxHeartbeats 4000000 in
theorem refGet_bad (Z : List Int) (W G now : Int) (h1 : -9223372036854775808 ≤ W ∧ W ≤ 9223372036854775807) (h2 : -9223372036854775808 ≤ G ∧ G ≤ 9223372036854775807) (hbad : ¬ goP W G ∨ ¬ (0 ≤ now ∧ now ≤ 253402300799)) :
    ACt Try.prog 25 [.slz .u8 Z, iv .i64 0, iv .i64 W, iv .i64 G, iv .i64 now] [] (Fn rb3) := by
  refine ACt.intro Try.func25 rfl (by kernel_rfl) (by simp [Try.ntmps25]) (fun cx => ?_)
  simp only [argE, Try.ntmps25, Try.results25]
  obtain ⟨b, hb, cG⟩ := Go_ct W G h1 h2
  have c1 := Tick_ct now
  by_cases hg : goP W G
  · obtain rfl := hb.2 hg
    have hbad := hbad.resolve_left (fun h => h hg)
    rw [show (decide (now ≥ 0) && decide (now ≤ 253402300799)) = false by simp; omega] at c1
    first | (have FRx := FR; clear FRx) | (have FR : Sm (¬ ((1 : Nat) = 0)) := Sm.mk Nat.one_ne_zero)
    repeat' first
      | (refine Sm.mk ?_; try simp -dsimp only [ZK, rvc, drawF, headN, pureH, stp, dvc, calleeOf, gcall, pev, eff, newB, okd, og, ogs, ogo, ogp, slv, bltv, opd, litv, strip, one, both, putE, St.put, look, gdOf, gdv, picka, pickv, pickw, binv, bini, bins, binb, binp, bina, shp, eqCells, unv, convv, nilv, faddv, addp, idxav, idxp, load1, load1m, loadn, loadnm, loadv, hget, hset, hrep, hdel, slicev, bnd, shift1, lenv, IntKind.bits, extractv, fieldv, indexv, min2v, max2v, mkiv, cellsA, fillA, buildv, stC, oneC, rowMB, intsA, plN, appE, appZ, appC, appNZ, appNC, VwL, srcC, srcZ, srcM, isBoolT, isPtrT, isSliceT, uOk, Value.oneCell', Nat.reducePow, Int.reducePow, Nat.reduceAdd, Nat.reduceMul, Nat.reduceSub, Nat.reduceLT, Nat.reduceLeDiff, Nat.reduceEqDiff, Nat.reduceBEq, Nat.reduceDiv, Nat.reduceMod, ↓reduceIte, reduceCtorEq, Int.reduceToNat, Int.reduceLT, Int.reduceLE, drawMF, mkS, TFRhJ, SeqQ, BlkQ, LoopQ, BodyQ, FR.out])
      | (first | refine CallV.fn (cG) (Sm.out ?_) | refine ExF.mk (cG) (Sm.out ?_) | refine ExG.mk (fun _ => cG) (Sm.out ?_) | refine ExG.mkJ (fun _ => cG) (Sm.out ?_) | refine ExG.mkI (Ob.out ?_) (fun _ => cG) (Sm.out ?_))
      | (first | refine CallV.fn (c1) (Sm.out ?_) | refine ExF.mk (c1) (Sm.out ?_) | refine ExG.mk (fun _ => c1) (Sm.out ?_) | refine ExG.mkJ (fun _ => c1) (Sm.out ?_) | refine ExG.mkI (Ob.out ?_) (fun _ => c1) (Sm.out ?_))
      | (refine WP.seq fun K hK => ?_)
      | (refine WP.region (rvc_sound _ _ (Sm.out ?_)))
      | (refine WP.drawMk (ia := 10) (k := 11) mixed (by decide +kernel) (by decide +kernel) (by decide +kernel) (by decide +kernel) (Sm.out ?_))
      | (refine WP.drawK rfl mixed (by decide +kernel) (Sm.out ?_))
      | (refine Ob.mk ?_; focus (first | assumption | omega | decide | trivial | (intro hob; simp only [hob, ZF]; done) | (intros; (repeat' refine And.intro ?_ ?_) <;> first | assumption | omega | trivial | decide) | (intros; simp only [ZE] at *; (repeat' refine And.intro ?_ ?_) <;> first | assumption | omega | trivial)))
      | (refine And.intro (Ob.out ?_) ?_)
      | (refine WP.block ?_)
      | (refine WP.cond rfl (fun hc => ?_) (fun hc => ?_) <;> (try simp only [ZC, reduceCtorEq, ZD] at hc) <;> (try (exact absurd hc (by decide))) <;> (try (exfalso; omega)))
      | ((first | refine WP.skip ?_ | refine WP.exit ?_); simp only [SeqQ, BlkQ, LoopQ, BodyQ, ↓reduceIte, Nat.reduceEqDiff, reduceCtorEq, look, true_and])
      | (refine WP.ret (Sm.out ?_))
      | (first | refine ExG.no (Sm.out ?_) | refine Or.inl (ExG.no (Sm.out ?_)) | refine Or.inl (And.intro (fun hg => absurd hg (by decide)) (ExG.no (Sm.out ?_))))
      | (refine Rt.mk ?_; refine And.intro ?_ ?_ <;> (intro hg; first | exact absurd hg (by decide) | refine Sm.out ?_))
      | (refine Nu.mk ?_; first | (fail_if_success (have := nb1)); intro nb1 | (fail_if_success (have := nb2)); intro nb2 | (fail_if_success (have := nb3)); intro nb3 | (fail_if_success (have := nb4)); intro nb4 | (fail_if_success (have := nb5)); intro nb5 | (fail_if_success (have := nb6)); intro nb6 | intro nbz)
      | (refine Fr.mk ?_; intro hfr; (first | (have hFRb : _ ≤ _ ∧ _ ≤ _ := And.intro hfr.1 hfr.2.1) | skip); replace FR := Sm.mk (And.intro hfr FR.out); clear hfr; refine Sm.out ?_)
      | (refine Two.mk ?_ ?_)
      | (refine Cs.mk ?_; intro hcs; first | exact False.elim hcs | (exfalso; omega) | (refine Sm.out ?_))
      | (refine OutQ.all ?_ ?_; (focus (simp only [resv, ZK, look, loadv, loadn, loadnm, load1, load1m, hget, ↓reduceIte, Nat.reduceEqDiff, Nat.reduceAdd, Nat.reduceMul, Nat.reduceLeDiff, Nat.reduceLT, reduceCtorEq, TFRhJ, FR.out])); (try simp only [resv, resA, Fn, ZK, look, loadv, loadn, loadnm, load1, load1m, hget, ↓reduceIte, Nat.reduceEqDiff, Nat.reduceAdd, Nat.reduceMul, Nat.reduceLeDiff, Nat.reduceLT, reduceCtorEq, TFRhJ, FR.out]); (try simp [resA, Fn, look, FR.out]); done)
      | go_step
      | omega
      | (simp only [maxLen_eq]; omega)
      | (refine Or.inr (Rt.mk ?_); refine And.intro ?_ ?_ <;> (intro hg; first | exact absurd hg (by decide) | refine Sm.out ?_))
  · have hbf : b = false := by cases b; rfl; exact absurd (hb.1 rfl) hg
    subst hbf
    first | (have FRx := FR; clear FRx) | (have FR : Sm (¬ ((1 : Nat) = 0)) := Sm.mk Nat.one_ne_zero)
    repeat' first
      | (refine Sm.mk ?_; try simp -dsimp only [ZK, rvc, drawF, headN, pureH, stp, dvc, calleeOf, gcall, pev, eff, newB, okd, og, ogs, ogo, ogp, slv, bltv, opd, litv, strip, one, both, putE, St.put, look, gdOf, gdv, picka, pickv, pickw, binv, bini, bins, binb, binp, bina, shp, eqCells, unv, convv, nilv, faddv, addp, idxav, idxp, load1, load1m, loadn, loadnm, loadv, hget, hset, hrep, hdel, slicev, bnd, shift1, lenv, IntKind.bits, extractv, fieldv, indexv, min2v, max2v, mkiv, cellsA, fillA, buildv, stC, oneC, rowMB, intsA, plN, appE, appZ, appC, appNZ, appNC, VwL, srcC, srcZ, srcM, isBoolT, isPtrT, isSliceT, uOk, Value.oneCell', Nat.reducePow, Int.reducePow, Nat.reduceAdd, Nat.reduceMul, Nat.reduceSub, Nat.reduceLT, Nat.reduceLeDiff, Nat.reduceEqDiff, Nat.reduceBEq, Nat.reduceDiv, Nat.reduceMod, ↓reduceIte, reduceCtorEq, Int.reduceToNat, Int.reduceLT, Int.reduceLE, drawMF, mkS, TFRhJ, SeqQ, BlkQ, LoopQ, BodyQ, FR.out])
      | (first | refine CallV.fn (cG) (Sm.out ?_) | refine ExF.mk (cG) (Sm.out ?_) | refine ExG.mk (fun _ => cG) (Sm.out ?_) | refine ExG.mkJ (fun _ => cG) (Sm.out ?_) | refine ExG.mkI (Ob.out ?_) (fun _ => cG) (Sm.out ?_))
      | (refine WP.seq fun K hK => ?_)
      | (refine WP.region (rvc_sound _ _ (Sm.out ?_)))
      | (refine WP.drawMk (ia := 10) (k := 11) mixed (by decide +kernel) (by decide +kernel) (by decide +kernel) (by decide +kernel) (Sm.out ?_))
      | (refine WP.drawK rfl mixed (by decide +kernel) (Sm.out ?_))
      | (refine Ob.mk ?_; focus (first | assumption | omega | decide | trivial | (intro hob; simp only [hob, ZF]; done) | (intros; (repeat' refine And.intro ?_ ?_) <;> first | assumption | omega | trivial | decide) | (intros; simp only [ZE] at *; (repeat' refine And.intro ?_ ?_) <;> first | assumption | omega | trivial)))
      | (refine And.intro (Ob.out ?_) ?_)
      | (refine WP.block ?_)
      | (refine WP.cond rfl (fun hc => ?_) (fun hc => ?_) <;> (try simp only [ZC, reduceCtorEq, ZD] at hc) <;> (try (exact absurd hc (by decide))) <;> (try (exfalso; omega)))
      | ((first | refine WP.skip ?_ | refine WP.exit ?_); simp only [SeqQ, BlkQ, LoopQ, BodyQ, ↓reduceIte, Nat.reduceEqDiff, reduceCtorEq, look, true_and])
      | (refine WP.ret (Sm.out ?_))
      | (first | refine ExG.no (Sm.out ?_) | refine Or.inl (ExG.no (Sm.out ?_)) | refine Or.inl (And.intro (fun hg => absurd hg (by decide)) (ExG.no (Sm.out ?_))))
      | (refine Rt.mk ?_; refine And.intro ?_ ?_ <;> (intro hg; first | exact absurd hg (by decide) | refine Sm.out ?_))
      | (refine Nu.mk ?_; first | (fail_if_success (have := nb1)); intro nb1 | (fail_if_success (have := nb2)); intro nb2 | (fail_if_success (have := nb3)); intro nb3 | (fail_if_success (have := nb4)); intro nb4 | (fail_if_success (have := nb5)); intro nb5 | (fail_if_success (have := nb6)); intro nb6 | intro nbz)
      | (refine Fr.mk ?_; intro hfr; (first | (have hFRb : _ ≤ _ ∧ _ ≤ _ := And.intro hfr.1 hfr.2.1) | skip); replace FR := Sm.mk (And.intro hfr FR.out); clear hfr; refine Sm.out ?_)
      | (refine Two.mk ?_ ?_)
      | (refine Cs.mk ?_; intro hcs; first | exact False.elim hcs | (exfalso; omega) | (refine Sm.out ?_))
      | (refine OutQ.all ?_ ?_; (focus (simp only [resv, ZK, look, loadv, loadn, loadnm, load1, load1m, hget, ↓reduceIte, Nat.reduceEqDiff, Nat.reduceAdd, Nat.reduceMul, Nat.reduceLeDiff, Nat.reduceLT, reduceCtorEq, TFRhJ, FR.out])); (try simp only [resv, resA, Fn, ZK, look, loadv, loadn, loadnm, load1, load1m, hget, ↓reduceIte, Nat.reduceEqDiff, Nat.reduceAdd, Nat.reduceMul, Nat.reduceLeDiff, Nat.reduceLT, reduceCtorEq, TFRhJ, FR.out]); (try simp [resA, Fn, look, FR.out]); done)
      | go_step
      | omega
      | (simp only [maxLen_eq]; omega)
      | (refine Or.inr (Rt.mk ?_); refine And.intro ?_ ?_ <;> (intro hg; first | exact absurd hg (by decide) | refine Sm.out ?_))
structure UG3 where
  i : Nat
  E : List Ev
  o : Option (Nat × Nat)
  a : Nat
abbrev Qg (E : List Ev) : Type := {p : Nat × Option (Nat × Nat) // evOk E p.2 ∧ ∀ x ∈ evB E p.2, x.1 ≠ p.1}
theorem pmm3 {α : Type} (c m s : α) (T : List α) : (c :: m :: s :: T).Perm ((m :: s :: T) ++ [c]) := List.perm_append_comm (l₁ := [c])
theorem pmm2 {α : Type} (m s : α) (T : List α) : (m :: s :: T).Perm ((m :: T) ++ [s]) := .cons m (List.perm_append_comm (l₁ := [s]))
set_option maxRecDepth 8000 in
set_option maxHeartbeats 8000000 in
theorem refGet_some (Z : List Int) (W G k w now : Nat) (E' : List Ev) (zs' : List Int) (hb : By Z) (hz : Z.length ≤ 2000) (hg : goP W G) (hgo : GoOk W G k w) (hn : now ≤ 253402300799)
    (hres : rdE w k now k [] Z = some (E', zs')) :
    ACt Try.prog 25 [.slz .u8 Z, iv .i64 0, iv .i64 W, iv .i64 G, iv .i64 now] [] (fun r F' => ∃ q : Qg E', r = .tup [pt q.1.1 0, iv .i64 ((Z.length - zs'.length : Nat) : Int), bv true] ∧ F' = (q.1.1, mM W G now (evL E' q.1.2)) :: evB E' q.1.2) := by
  refine ACt.intro Try.func25 rfl (by kernel_rfl) (by simp [Try.ntmps25]) (fun cx => ?_)
  simp only [argE, Try.ntmps25, Try.results25]
  have hk1 := hgo.k1
  have hk2 := hgo.k2
  have hw := hgo.w0
  obtain ⟨b, hbb, cG⟩ := Go_ct W G (by have := hgo.w2; omega) (by have := hgo.g2; omega)
  obtain rfl := hbb.2 hg
  have c1 := Tick_ct now
  rw [show (decide ((now : Int) ≥ 0) && decide ((now : Int) ≤ 253402300799)) = true by simp; omega] at c1
  have c2 := Buckets_ct W G hg
  rw [← hgo.hk] at c2
  have n1' : ¬ (k : Int) = 0 := by omega
  have n2' : ¬ (w : Int) = 0 := by omega
  have hW := hgo.w2
  have f1 : (W : Int).tdiv (k : Int) = (w : Int) := by rw [hgo.hw, Int.tdiv_eq_ediv_of_nonneg (by omega)]; simp
  have hwW : w ≤ W := by rw [hgo.hw]; exact Nat.div_le_self _ _
  have f2 : IntKind.i64.wrap (w : Int) = (w : Int) := wrap_i64_nat (by omega)
  obtain ⟨ne, hnn⟩ : ∃ ne, ne = now / w := ⟨_, rfl⟩
  have hnel : ne ≤ 253402300799 := by rw [hnn]; exact Nat.le_trans (Nat.div_le_self _ _) hn
  have hnw : ne * w ≤ now := by rw [hnn]; exact Nat.div_mul_le_self _ _
  have f3 : (now : Int).tdiv (w : Int) = (ne : Int) := by rw [hnn, Int.tdiv_eq_ediv_of_nonneg (by omega)]; simp
  have f4 : IntKind.i64.wrap (ne : Int) = (ne : Int) := wrap_i64_nat (by omega)
  have eT1 : sT (winP now w k) [] = 0 := rfl
  have y0 : ((0 : Nat) : Int) = 0 := rfl
  first | (have FRx := FR; clear FRx) | (have FR : Sm (¬ ((1 : Nat) = 0)) := Sm.mk Nat.one_ne_zero)
  repeat' first
    | (refine Sm.mk ?_; try simp -dsimp only [ZK, rvc, drawF, headN, pureH, stp, dvc, calleeOf, gcall, pev, eff, newB, okd, og, ogs, ogo, ogp, slv, bltv, opd, litv, strip, one, both, putE, St.put, look, gdOf, gdv, picka, pickv, pickw, binv, bini, bins, binb, binp, bina, shp, eqCells, unv, convv, nilv, faddv, addp, idxav, idxp, load1, load1m, loadn, loadnm, loadv, hget, hset, hrep, hdel, slicev, bnd, shift1, lenv, IntKind.bits, extractv, fieldv, indexv, min2v, max2v, mkiv, cellsA, fillA, buildv, stC, oneC, rowMB, intsA, plN, appE, appZ, appC, appNZ, appNC, VwL, srcC, srcZ, srcM, isBoolT, isPtrT, isSliceT, uOk, Value.oneCell', Nat.reducePow, Int.reducePow, Nat.reduceAdd, Nat.reduceMul, Nat.reduceSub, Nat.reduceLT, Nat.reduceLeDiff, Nat.reduceEqDiff, Nat.reduceBEq, Nat.reduceDiv, Nat.reduceMod, ↓reduceIte, reduceCtorEq, Int.reduceToNat, Int.reduceLT, Int.reduceLE, drawMF, mkS, TFRhJ, SeqQ, BlkQ, LoopQ, BodyQ, f1, f2, n1', FR.out])
    | (first | refine CallV.fn (cG) (Sm.out ?_) | refine ExF.mk (cG) (Sm.out ?_) | refine ExG.mk (fun _ => cG) (Sm.out ?_) | refine ExG.mkJ (fun _ => cG) (Sm.out ?_) | refine ExG.mkI (Ob.out ?_) (fun _ => cG) (Sm.out ?_))
    | (first | refine CallV.fn (c1) (Sm.out ?_) | refine ExF.mk (c1) (Sm.out ?_) | refine ExG.mk (fun _ => c1) (Sm.out ?_) | refine ExG.mkJ (fun _ => c1) (Sm.out ?_) | refine ExG.mkI (Ob.out ?_) (fun _ => c1) (Sm.out ?_))
    | (first | refine CallV.fn (c2) (Sm.out ?_) | refine ExF.mk (c2) (Sm.out ?_) | refine ExG.mk (fun _ => c2) (Sm.out ?_) | refine ExG.mkJ (fun _ => c2) (Sm.out ?_) | refine ExG.mkI (Ob.out ?_) (fun _ => c2) (Sm.out ?_))
    | (refine WP.seq fun K hK => ?_)
    | (refine WP.region (rvc_sound _ _ (Sm.out ?_)))
    | (refine WP.drawMk (ia := 10) (k := 11) mixed (by decide +kernel) (by decide +kernel) (by decide +kernel) (by decide +kernel) (Sm.out ?_))
    | (refine WP.drawK rfl mixed (by decide +kernel) (Sm.out ?_))
    | (refine Ob.mk ?_; focus (first | assumption | omega | decide | trivial | (intro hob; simp only [hob, ZF]; done) | (intros; (repeat' refine And.intro ?_ ?_) <;> first | assumption | omega | trivial | decide) | (intros; simp only [ZE] at *; (repeat' refine And.intro ?_ ?_) <;> first | assumption | omega | trivial)))
    | (refine And.intro (Ob.out ?_) ?_)
    | (refine WP.block ?_)
    | (refine WP.cond rfl (fun hc => ?_) (fun hc => ?_) <;> (try simp only [ZC, reduceCtorEq, ZD] at hc) <;> (try (exact absurd hc (by decide))) <;> (try (exfalso; omega)))
    | ((first | refine WP.skip ?_ | refine WP.exit ?_); simp only [SeqQ, BlkQ, LoopQ, BodyQ, ↓reduceIte, Nat.reduceEqDiff, reduceCtorEq, look, true_and])
    | (refine WP.ret (Sm.out ?_))
    | (first | refine ExG.no (Sm.out ?_) | refine Or.inl (ExG.no (Sm.out ?_)) | refine Or.inl (And.intro (fun hg => absurd hg (by decide)) (ExG.no (Sm.out ?_))))
    | (refine Rt.mk ?_; refine And.intro ?_ ?_ <;> (intro hg; first | exact absurd hg (by decide) | refine Sm.out ?_))
    | (refine Nu.mk ?_; first | (fail_if_success (have := nb1)); intro nb1 | (fail_if_success (have := nb2)); intro nb2 | (fail_if_success (have := nb3)); intro nb3 | (fail_if_success (have := nb4)); intro nb4 | (fail_if_success (have := nb5)); intro nb5 | (fail_if_success (have := nb6)); intro nb6 | intro nbz)
    | (refine Fr.mk ?_; intro hfr; (first | (have hFRb : _ ≤ _ ∧ _ ≤ _ := And.intro hfr.1 hfr.2.1) | skip); replace FR := Sm.mk (And.intro hfr FR.out); clear hfr; refine Sm.out ?_)
    | (refine Two.mk ?_ ?_)
    | (refine Cs.mk ?_; intro hcs; first | exact False.elim hcs | (exfalso; omega) | (refine Sm.out ?_))
    | go_step
    | omega
    | (simp only [maxLen_eq]; omega)
    | (refine Or.inr (Rt.mk ?_); refine And.intro ?_ ?_ <;> (intro hg; first | exact absurd hg (by decide) | refine Sm.out ?_))
  refine WP.loop (Γ := UG3) (fun q => ⟨[(17, iv .i64 q.i), (14, iv .i64 k), (15, iv .i64 w), (13, pt nb1 0), (16, pt nb2 0), (0, .slz .u8 Z), (1, iv .i64 q.a), (4, iv .i64 now)],
      (nb1, mM W G now (evL q.E q.o)) :: (nb2, .cells [iv .u64 0, nu (sT (winP now w k) q.E)] 2 43) :: evB q.E q.o⟩)
    (fun q => q.i ≤ k ∧ RI w k now q.i q.E ∧ evOk q.E q.o ∧ q.a ≤ Z.length ∧ rdE w k now (k - q.i) q.E (Z.drop q.a) = some (E', zs')) (fun q => k - q.i) ⟨0, [], none, 0⟩
    ⟨by simp, RI.zero w k now, rfl, by simp, by simpa using hres⟩ (Sub.pick (by simp [pickB, hget, hdel, FR.out, eT1, y0, evL, evB]) (by simp [look, eT1, y0, evL, evB])) ?_
  intro ⟨i, E, o, a⟩ ⟨hi, hR, ho, ha, hres⟩
  simp only at hi hR ho ha hres ⊢
  obtain ⟨ST, hST⟩ : ∃ ST, ST = sT (winP now w k) E := ⟨_, rfl⟩
  by_cases hlt : i < k
  · have k1 : decide ((i : Int) < (k : Int)) = true := by simp; omega
    have w1 : IntKind.i64.wrap ((i : Int) + 1) = ((i + 1 : Nat) : Int) := by rw [wrap_i64 (by omega) (by omega)]; omega
    have wa : IntKind.i64.wrap ((ne : Int) - (k : Int)) = (ne : Int) - (k : Int) := wrap_i64 (by omega) (by omega)
    have wb : IntKind.i64.wrap ((ne : Int) - (k : Int) + 1) = (ne : Int) - (k : Int) + 1 := wrap_i64 (by omega) (by omega)
    have wc : IntKind.i64.wrap ((ne : Int) - (k : Int) + 1 + (i : Int)) = (ne : Int) + 1 + i - k := by rw [wrap_i64 (by omega) (by omega)]; omega
    obtain ⟨j, hj⟩ : ∃ j, k - i = j + 1 := ⟨k - i - 1, by omega⟩
    rw [hj] at hres
    obtain ⟨g, z1, t, z2, n1, n2, hgt, hov, hh⟩ := rdE_some hres
    have hki : k - (j + 1) = i := by omega
    have hj2 : k - (i + 1) = j := by omega
    rw [hki] at hh
    obtain ⟨hg64, hb1, hl1⟩ := nF_len (hb.drop a) n1
    obtain ⟨ht64, hb2, hl2⟩ := nF_len hb1 n2
    obtain ⟨s1, s2⟩ := drop_next hb n1
    have n2b := n2
    rw [← s1] at n2b
    obtain ⟨s3, s4⟩ := drop_next hb n2b
    have x1 := number_good Z z1 a g ha hb hz n1
    have x2 := number_good Z z2 (Z.length - z1.length) t (by omega) hb hz n2b
    obtain ⟨A1, hA1⟩ : ∃ A1, A1 = Z.length - z1.length := ⟨_, rfl⟩
    obtain ⟨A2, hA2⟩ : ∃ A2, A2 = Z.length - z2.length := ⟨_, rfl⟩
    rw [← hA1] at x1 x2
    rw [← hA2] at x2 s3
    have x3 := Over_ct 0 ST g t ht64
    rw [decide_eq_false (show ¬ 9223372036854775807 < ST + t by rw [hST]; omega)] at x3
    have d3 : decide ((g : Int) > (t : Int)) = false := by simp; omega
    have wt : IntKind.u64.wrap ((ST : Int) + (t : Int)) = ((ST + t : Nat) : Int) := by rw [wrap_u64 (by omega) (by rw [hST]; omega)]; omega
    have x3 : ACt Try.prog 45 [.agg [iv .u64 0, nu ST], cnt g t] [] (Fn (bv false)) := x3
    by_cases hk : k ≤ ne + 1 + i
    · have hh := (hh.resolve_right (fun h => h.1 (by rw [← hnn]; exact hk))).2
      obtain ⟨m, hm⟩ : ∃ m, m = ne + 1 + i - k := ⟨_, rfl⟩
      have em : now / w + 1 + i - k = m := by rw [← hnn, hm]
      have hmw : m * w ≤ now := Nat.le_trans (Nat.mul_le_mul_right w (show m ≤ ne by omega)) hnw
      have wd : (ne : Int) + 1 + i - k = (m : Int) := by omega
      rw [em] at hh
      rw [wd] at wc
      have d1 : decide ((m : Int) < 0) = false := by simp
      have d2 : decide ((m : Int) ≥ 0) = true := by simp
      have hR' := hR.add hw hlt (by rw [← hnn]; exact hk) hgt hov
      rw [em] at hR'
      have we : IntKind.i64.wrap ((m : Int) * (w : Int)) = ((m * w : Nat) : Int) := by rw [← Int.natCast_mul]; exact wrap_i64_nat (by omega)
      have hwin : winP now w k (m * w) = true := by
        have : m * w / w = m := Nat.mul_div_cancel _ (by omega)
        simp only [winP, this, ← hnn, decide_eq_true_eq]; omega
      have hS' : sT (winP now w k) (E ++ [⟨m * w, g, t⟩]) = ST + t := by
        rw [sT_app, hST]; simp [sT, hwin]
      obtain ⟨MW, hMW⟩ : ∃ MW, MW = m * w := ⟨_, rfl⟩
      rw [← hMW] at we hmw hR' hh hS'
      clear hwin hMW
      have hCl := evC_len E
      have hlE := hR.len
      obtain ⟨C2, hC2⟩ : ∃ C2, evC (E ++ [⟨MW, g, t⟩]) = C2 := ⟨_, rfl⟩
      have s5 : evC E ++ [iv .i64 MW, nu g, nu t] = C2 := by rw [← hC2, evC_app]; rfl
      have lE' : (E ++ [(⟨MW, g, t⟩ : Ev)]).length = E.length + 1 := by simp
      have hw8 : (ne : Int) = ne := rfl
      rw [← hST]
      cases o with
      | none =>
        have hE0 : E = [] := ho
        have hlen : E.length = 0 := by rw [hE0]; rfl
        have s6 : [iv .i64 MW, nu g, nu t] = C2 := by rw [← s5, hE0]; rfl
        simp only [evL, evB]
        (refine WP.nd fun hnd => ?_; simp only [ndF, fresh_cons, fresh_nil, and_true, ne_eq] at hnd; replace FR := Sm.mk (And.intro hnd FR.out); clear hnd)
        clear hST hnn
        first | (have FRx := FR; clear FRx) | (have FR : Sm (¬ ((1 : Nat) = 0)) := Sm.mk Nat.one_ne_zero)
        repeat' first
          | (refine Sm.mk ?_; try simp -dsimp only [ZK, rvc, drawF, headN, pureH, stp, dvc, calleeOf, gcall, pev, eff, newB, okd, og, ogs, ogo, ogp, slv, bltv, opd, litv, strip, one, both, putE, St.put, look, gdOf, gdv, picka, pickv, pickw, binv, bini, bins, binb, binp, bina, shp, eqCells, unv, convv, nilv, faddv, addp, idxav, idxp, load1, load1m, loadn, loadnm, loadv, hget, hset, hrep, hdel, slicev, bnd, shift1, lenv, IntKind.bits, extractv, fieldv, indexv, min2v, max2v, mkiv, cellsA, fillA, buildv, stC, oneC, rowMB, intsA, plN, appE, appZ, appC, appNZ, appNC, VwL, srcC, srcZ, srcM, isBoolT, isPtrT, isSliceT, uOk, Value.oneCell', Nat.reducePow, Int.reducePow, Nat.reduceAdd, Nat.reduceMul, Nat.reduceSub, Nat.reduceLT, Nat.reduceLeDiff, Nat.reduceEqDiff, Nat.reduceBEq, Nat.reduceDiv, Nat.reduceMod, ↓reduceIte, reduceCtorEq, Int.reduceToNat, Int.reduceLT, Int.reduceLE, drawMF, mkS, TFRhJ, SeqQ, BlkQ, LoopQ, BodyQ, k1, w1, wa, wb, wc, we, wt, d1, d2, d3, f3, f4, n2', List.append_nil, FR.out])
          | (first | refine CallV.fn (x1) (Sm.out ?_) | refine ExF.mk (x1) (Sm.out ?_) | refine ExG.mk (fun _ => x1) (Sm.out ?_) | refine ExG.mkJ (fun _ => x1) (Sm.out ?_) | refine ExG.mkI (Ob.out ?_) (fun _ => x1) (Sm.out ?_))
          | (first | refine CallV.fn (x2) (Sm.out ?_) | refine ExF.mk (x2) (Sm.out ?_) | refine ExG.mk (fun _ => x2) (Sm.out ?_) | refine ExG.mkJ (fun _ => x2) (Sm.out ?_) | refine ExG.mkI (Ob.out ?_) (fun _ => x2) (Sm.out ?_))
          | (first | refine CallV.fn (x3) (Sm.out ?_) | refine ExF.mk (x3) (Sm.out ?_) | refine ExG.mk (fun _ => x3) (Sm.out ?_) | refine ExG.mkJ (fun _ => x3) (Sm.out ?_) | refine ExG.mkI (Ob.out ?_) (fun _ => x3) (Sm.out ?_))
          | (refine WP.seq fun K hK => ?_)
          | (refine WP.region (rvc_sound _ _ (Sm.out ?_)))
          | (refine WP.drawMk (ia := 10) (k := 11) mixed (by decide +kernel) (by decide +kernel) (by decide +kernel) (by decide +kernel) (Sm.out ?_))
          | (refine WP.drawK rfl mixed (by decide +kernel) (Sm.out ?_))
          | (refine Ob.mk ?_; focus (first | assumption | omega | decide | trivial | (intro hob; simp only [hob, ZF]; done) | (intros; (repeat' refine And.intro ?_ ?_) <;> first | assumption | omega | trivial | decide) | (intros; simp only [ZE] at *; (repeat' refine And.intro ?_ ?_) <;> first | assumption | omega | trivial)))
          | (refine And.intro (Ob.out ?_) ?_)
          | (refine WP.block ?_)
          | (refine WP.cond rfl (fun hc => ?_) (fun hc => ?_) <;> (try simp only [ZC, reduceCtorEq, ZD] at hc) <;> (try (exact absurd hc (by decide))) <;> (try (exfalso; omega)))
          | ((first | refine WP.skip ?_ | refine WP.exit ?_); simp only [SeqQ, BlkQ, LoopQ, BodyQ, ↓reduceIte, Nat.reduceEqDiff, reduceCtorEq, look, true_and])
          | (refine WP.ret (Sm.out ?_))
          | (first | refine ExG.no (Sm.out ?_) | refine Or.inl (ExG.no (Sm.out ?_)) | refine Or.inl (And.intro (fun hg => absurd hg (by decide)) (ExG.no (Sm.out ?_))))
          | (refine Rt.mk ?_; refine And.intro ?_ ?_ <;> (intro hg; first | exact absurd hg (by decide) | refine Sm.out ?_))
          | (refine Nu.mk ?_; first | (fail_if_success (have := nb1)); intro nb1 | (fail_if_success (have := nb2)); intro nb2 | (fail_if_success (have := nb3)); intro nb3 | (fail_if_success (have := nb4)); intro nb4 | (fail_if_success (have := nb5)); intro nb5 | (fail_if_success (have := nb6)); intro nb6 | intro nbz)
          | (refine Fr.mk ?_; intro hfr; (first | (have hFRb : _ ≤ _ ∧ _ ≤ _ := And.intro hfr.1 hfr.2.1) | skip); replace FR := Sm.mk (And.intro hfr FR.out); clear hfr; refine Sm.out ?_)
          | (refine Two.mk ?_ ?_)
          | (refine Cs.mk ?_; intro hcs; first | exact False.elim hcs | (exfalso; omega) | (refine Sm.out ?_))
          | go_step
          | omega
          | (simp only [maxLen_eq]; omega)
          | (refine Or.inr (Rt.mk ?_); refine And.intro ?_ ?_ <;> (intro hg; first | exact absurd hg (by decide) | refine Sm.out ?_))
        exact ⟨⟨i + 1, E ++ [⟨MW, g, t⟩], some (nb5, nb6), A2⟩, ⟨by simp only; omega, hR', by simp only [evOk, lE', hlen]; omega, by simp only; omega, by simp only; rw [hj2, s3]; exact hh⟩, by simp only; omega, by simp only [evL, evB, lE', hC2, hS', ← s6, hlen]; exact (Sub.pick (by simp [pickB, hget, hdel, FR.out]) (by simp [look]))⟩
      | some p =>
        obtain ⟨b, cap⟩ := p
        obtain ⟨ho1, ho2⟩ := ho
        simp only [evL, evB]
        (refine WP.nd fun hnd => ?_; simp only [ndF, fresh_cons, fresh_nil, and_true, ne_eq] at hnd; replace FR := Sm.mk (And.intro hnd FR.out); clear hnd)
        obtain ⟨C, hC⟩ : ∃ C, C = evC E := ⟨_, rfl⟩
        rw [← hC] at s5 hCl ⊢
        clear hST hnn hC
        first | (have FRx := FR; clear FRx) | (have FR : Sm (¬ ((1 : Nat) = 0)) := Sm.mk Nat.one_ne_zero)
        repeat' first
          | (refine Sm.mk ?_; try simp -dsimp only [ZK, rvc, drawF, headN, pureH, stp, dvc, calleeOf, gcall, pev, eff, newB, okd, og, ogs, ogo, ogp, slv, bltv, opd, litv, strip, one, both, putE, St.put, look, gdOf, gdv, picka, pickv, pickw, binv, bini, bins, binb, binp, bina, shp, eqCells, unv, convv, nilv, faddv, addp, idxav, idxp, load1, load1m, loadn, loadnm, loadv, hget, hset, hrep, hdel, slicev, bnd, shift1, lenv, IntKind.bits, extractv, fieldv, indexv, min2v, max2v, mkiv, cellsA, fillA, buildv, stC, oneC, rowMB, intsA, plN, appE, appZ, appC, appNZ, appNC, VwL, srcC, srcZ, srcM, isBoolT, isPtrT, isSliceT, uOk, Value.oneCell', Nat.reducePow, Int.reducePow, Nat.reduceAdd, Nat.reduceMul, Nat.reduceSub, Nat.reduceLT, Nat.reduceLeDiff, Nat.reduceEqDiff, Nat.reduceBEq, Nat.reduceDiv, Nat.reduceMod, ↓reduceIte, reduceCtorEq, Int.reduceToNat, Int.reduceLT, Int.reduceLE, drawMF, mkS, TFRhJ, SeqQ, BlkQ, LoopQ, BodyQ, k1, w1, wa, wb, wc, we, wt, d1, d2, d3, f3, f4, n2', hCl, s5, FR.out])
          | (first | refine CallV.fn (x1) (Sm.out ?_) | refine ExF.mk (x1) (Sm.out ?_) | refine ExG.mk (fun _ => x1) (Sm.out ?_) | refine ExG.mkJ (fun _ => x1) (Sm.out ?_) | refine ExG.mkI (Ob.out ?_) (fun _ => x1) (Sm.out ?_))
          | (first | refine CallV.fn (x2) (Sm.out ?_) | refine ExF.mk (x2) (Sm.out ?_) | refine ExG.mk (fun _ => x2) (Sm.out ?_) | refine ExG.mkJ (fun _ => x2) (Sm.out ?_) | refine ExG.mkI (Ob.out ?_) (fun _ => x2) (Sm.out ?_))
          | (first | refine CallV.fn (x3) (Sm.out ?_) | refine ExF.mk (x3) (Sm.out ?_) | refine ExG.mk (fun _ => x3) (Sm.out ?_) | refine ExG.mkJ (fun _ => x3) (Sm.out ?_) | refine ExG.mkI (Ob.out ?_) (fun _ => x3) (Sm.out ?_))
          | (refine WP.seq fun K hK => ?_)
          | (refine WP.region (rvc_sound _ _ (Sm.out ?_)))
          | (refine WP.drawMk (ia := 10) (k := 11) mixed (by decide +kernel) (by decide +kernel) (by decide +kernel) (by decide +kernel) (Sm.out ?_))
          | (refine WP.drawK rfl mixed (by decide +kernel) (Sm.out ?_))
          | (refine Ob.mk ?_; focus (first | assumption | omega | decide | trivial | (intro hob; simp only [hob, ZF]; done) | (intros; (repeat' refine And.intro ?_ ?_) <;> first | assumption | omega | trivial | decide) | (intros; simp only [ZE] at *; (repeat' refine And.intro ?_ ?_) <;> first | assumption | omega | trivial)))
          | (refine And.intro (Ob.out ?_) ?_)
          | (refine WP.block ?_)
          | (refine WP.cond rfl (fun hc => ?_) (fun hc => ?_) <;> (try simp only [ZC, reduceCtorEq, ZD] at hc) <;> (try (exact absurd hc (by decide))) <;> (try (exfalso; omega)))
          | ((first | refine WP.skip ?_ | refine WP.exit ?_); simp only [SeqQ, BlkQ, LoopQ, BodyQ, ↓reduceIte, Nat.reduceEqDiff, reduceCtorEq, look, true_and])
          | (refine WP.ret (Sm.out ?_))
          | (first | refine ExG.no (Sm.out ?_) | refine Or.inl (ExG.no (Sm.out ?_)) | refine Or.inl (And.intro (fun hg => absurd hg (by decide)) (ExG.no (Sm.out ?_))))
          | (refine Rt.mk ?_; refine And.intro ?_ ?_ <;> (intro hg; first | exact absurd hg (by decide) | refine Sm.out ?_))
          | (refine Nu.mk ?_; first | (fail_if_success (have := nb1)); intro nb1 | (fail_if_success (have := nb2)); intro nb2 | (fail_if_success (have := nb3)); intro nb3 | (fail_if_success (have := nb4)); intro nb4 | (fail_if_success (have := nb5)); intro nb5 | (fail_if_success (have := nb6)); intro nb6 | intro nbz)
          | (refine Fr.mk ?_; intro hfr; (first | (have hFRb : _ ≤ _ ∧ _ ≤ _ := And.intro hfr.1 hfr.2.1) | skip); replace FR := Sm.mk (And.intro hfr FR.out); clear hfr; refine Sm.out ?_)
          | (refine Two.mk ?_ ?_)
          | (refine Cs.mk ?_; intro hcs; first | exact False.elim hcs | (exfalso; omega) | (refine Sm.out ?_))
          | go_step
          | omega
          | (simp only [maxLen_eq]; omega)
          | (refine Or.inr (Rt.mk ?_); refine And.intro ?_ ?_ <;> (intro hg; first | exact absurd hg (by decide) | refine Sm.out ?_))
        all_goals exact ⟨⟨i + 1, E ++ [⟨MW, g, t⟩], some (nb5, nb6), A2⟩, ⟨by simp only; omega, hR', by simp only [evOk, lE']; omega, by simp only; omega, by simp only; rw [hj2, s3]; exact hh⟩, by simp only; omega, by simp only [evL, evB, lE', hC2, hS']; exact (Sub.pick (by simp [pickB, hget, hdel, FR.out]) (by simp [look]))⟩
    · obtain ⟨-, rfl, rfl, h9⟩ := hh.resolve_left (fun h => hk (by rw [hnn]; exact h.1))
      clear hh
      have d1 : decide ((ne : Int) + 1 + i - k < 0) = true := by simp; omega
      have d2 : decide ((ne : Int) + 1 + i - k ≥ 0) = false := by simp; omega
      have z5 : ((0 : Int) == 0) = true := by decide
      have wt : IntKind.u64.wrap ((ST : Int) + 0) = (ST : Int) := by rw [wrap_u64 (by omega) (by rw [hST]; omega)]; omega
      have x1 : ACt Try.prog 44 [.slz .u8 Z, iv .i64 (a : Int)] [] (Fn (.tup [iv .u64 0, iv .i64 (A1 : Int), bv true])) := x1
      have x2 : ACt Try.prog 44 [.slz .u8 Z, iv .i64 (A1 : Int)] [] (Fn (.tup [iv .u64 0, iv .i64 (A2 : Int), bv true])) := x2
      have x3 : ACt Try.prog 45 [.agg [iv .u64 0, nu ST], .agg [iv .u64 0, iv .u64 0]] [] (Fn (bv false)) := x3
      rw [← hST]
      first | (have FRx := FR; clear FRx) | (have FR : Sm (¬ ((1 : Nat) = 0)) := Sm.mk Nat.one_ne_zero)
      repeat' first
        | (refine Sm.mk ?_; try simp -dsimp only [ZK, rvc, drawF, headN, pureH, stp, dvc, calleeOf, gcall, pev, eff, newB, okd, og, ogs, ogo, ogp, slv, bltv, opd, litv, strip, one, both, putE, St.put, look, gdOf, gdv, picka, pickv, pickw, binv, bini, bins, binb, binp, bina, shp, eqCells, unv, convv, nilv, faddv, addp, idxav, idxp, load1, load1m, loadn, loadnm, loadv, hget, hset, hrep, hdel, slicev, bnd, shift1, lenv, IntKind.bits, extractv, fieldv, indexv, min2v, max2v, mkiv, cellsA, fillA, buildv, stC, oneC, rowMB, intsA, plN, appE, appZ, appC, appNZ, appNC, VwL, srcC, srcZ, srcM, isBoolT, isPtrT, isSliceT, uOk, Value.oneCell', Nat.reducePow, Int.reducePow, Nat.reduceAdd, Nat.reduceMul, Nat.reduceSub, Nat.reduceLT, Nat.reduceLeDiff, Nat.reduceEqDiff, Nat.reduceBEq, Nat.reduceDiv, Nat.reduceMod, ↓reduceIte, reduceCtorEq, Int.reduceToNat, Int.reduceLT, Int.reduceLE, drawMF, mkS, TFRhJ, SeqQ, BlkQ, LoopQ, BodyQ, k1, w1, wa, wb, wc, wt, d1, d2, d3, f3, f4, n2', z5, fe43, FR.out])
        | (first | refine CallV.fn (x1) (Sm.out ?_) | refine ExF.mk (x1) (Sm.out ?_) | refine ExG.mk (fun _ => x1) (Sm.out ?_) | refine ExG.mkJ (fun _ => x1) (Sm.out ?_) | refine ExG.mkI (Ob.out ?_) (fun _ => x1) (Sm.out ?_))
        | (first | refine CallV.fn (x2) (Sm.out ?_) | refine ExF.mk (x2) (Sm.out ?_) | refine ExG.mk (fun _ => x2) (Sm.out ?_) | refine ExG.mkJ (fun _ => x2) (Sm.out ?_) | refine ExG.mkI (Ob.out ?_) (fun _ => x2) (Sm.out ?_))
        | (first | refine CallV.fn (x3) (Sm.out ?_) | refine ExF.mk (x3) (Sm.out ?_) | refine ExG.mk (fun _ => x3) (Sm.out ?_) | refine ExG.mkJ (fun _ => x3) (Sm.out ?_) | refine ExG.mkI (Ob.out ?_) (fun _ => x3) (Sm.out ?_))
        | (refine WP.seq fun K hK => ?_)
        | (refine WP.region (rvc_sound _ _ (Sm.out ?_)))
        | (refine WP.drawMk (ia := 10) (k := 11) mixed (by decide +kernel) (by decide +kernel) (by decide +kernel) (by decide +kernel) (Sm.out ?_))
        | (refine WP.drawK rfl mixed (by decide +kernel) (Sm.out ?_))
        | (refine Ob.mk ?_; focus (first | assumption | omega | decide | trivial | (intro hob; simp only [hob, ZF]; done) | (intros; (repeat' refine And.intro ?_ ?_) <;> first | assumption | omega | trivial | decide) | (intros; simp only [ZE] at *; (repeat' refine And.intro ?_ ?_) <;> first | assumption | omega | trivial)))
        | (refine And.intro (Ob.out ?_) ?_)
        | (refine WP.block ?_)
        | (refine WP.cond rfl (fun hc => ?_) (fun hc => ?_) <;> (try simp only [ZC, reduceCtorEq, ZD] at hc) <;> (try (exact absurd hc (by decide))) <;> (try (exfalso; omega)))
        | ((first | refine WP.skip ?_ | refine WP.exit ?_); simp only [SeqQ, BlkQ, LoopQ, BodyQ, ↓reduceIte, Nat.reduceEqDiff, reduceCtorEq, look, true_and])
        | (refine WP.ret (Sm.out ?_))
        | (first | refine ExG.no (Sm.out ?_) | refine Or.inl (ExG.no (Sm.out ?_)) | refine Or.inl (And.intro (fun hg => absurd hg (by decide)) (ExG.no (Sm.out ?_))))
        | (refine Rt.mk ?_; refine And.intro ?_ ?_ <;> (intro hg; first | exact absurd hg (by decide) | refine Sm.out ?_))
        | (refine Nu.mk ?_; first | (fail_if_success (have := nb1)); intro nb1 | (fail_if_success (have := nb2)); intro nb2 | (fail_if_success (have := nb3)); intro nb3 | (fail_if_success (have := nb4)); intro nb4 | (fail_if_success (have := nb5)); intro nb5 | (fail_if_success (have := nb6)); intro nb6 | intro nbz)
        | (refine Fr.mk ?_; intro hfr; (first | (have hFRb : _ ≤ _ ∧ _ ≤ _ := And.intro hfr.1 hfr.2.1) | skip); replace FR := Sm.mk (And.intro hfr FR.out); clear hfr; refine Sm.out ?_)
        | (refine Two.mk ?_ ?_)
        | (refine Cs.mk ?_; intro hcs; first | exact False.elim hcs | (exfalso; omega) | (refine Sm.out ?_))
        | go_step
        | omega
        | (simp only [maxLen_eq]; omega)
        | (refine Or.inr (Rt.mk ?_); refine And.intro ?_ ?_ <;> (intro hg; first | exact absurd hg (by decide) | refine Sm.out ?_))
      exact ⟨⟨i + 1, E, o, A2⟩, ⟨by simp only; omega, hR.next, ho, by simp only; omega, by simp only; rw [hj2, s3]; exact h9⟩, by simp only; omega, Sub.of_env [_] (by simp only [← hST]; exact pmm3 _ _ _ _) (by simp [look])⟩
  · obtain rfl : i = k := by omega
    have k1 : decide ((i : Int) < (i : Int)) = false := by simp
    rw [Nat.sub_self] at hres
    simp only [rdE, Option.some.injEq, Prod.mk.injEq] at hres
    obtain ⟨rfl, rfl⟩ := hres
    have ea : (Z.length - (Z.length - a) : Nat) = a := by omega
    refine WP.nd fun hnd => ?_
    simp only [ndF] at hnd
    have hq : ∀ x ∈ evB E o, x.1 ≠ nb1 := fun x hx => (hnd.1 x (List.mem_cons_of_mem _ hx)).1
    first | (have FRx := FR; clear FRx) | (have FR : Sm (¬ ((1 : Nat) = 0)) := Sm.mk Nat.one_ne_zero)
    repeat' first
      | (refine Sm.mk ?_; try simp -dsimp only [ZK, rvc, drawF, headN, pureH, stp, dvc, calleeOf, gcall, pev, eff, newB, okd, og, ogs, ogo, ogp, slv, bltv, opd, litv, strip, one, both, putE, St.put, look, gdOf, gdv, picka, pickv, pickw, binv, bini, bins, binb, binp, bina, shp, eqCells, unv, convv, nilv, faddv, addp, idxav, idxp, load1, load1m, loadn, loadnm, loadv, hget, hset, hrep, hdel, slicev, bnd, shift1, lenv, IntKind.bits, extractv, fieldv, indexv, min2v, max2v, mkiv, cellsA, fillA, buildv, stC, oneC, rowMB, intsA, plN, appE, appZ, appC, appNZ, appNC, VwL, srcC, srcZ, srcM, isBoolT, isPtrT, isSliceT, uOk, Value.oneCell', Nat.reducePow, Int.reducePow, Nat.reduceAdd, Nat.reduceMul, Nat.reduceSub, Nat.reduceLT, Nat.reduceLeDiff, Nat.reduceEqDiff, Nat.reduceBEq, Nat.reduceDiv, Nat.reduceMod, ↓reduceIte, reduceCtorEq, Int.reduceToNat, Int.reduceLT, Int.reduceLE, drawMF, mkS, TFRhJ, SeqQ, BlkQ, LoopQ, BodyQ, k1, FR.out])
      | (refine WP.seq fun K hK => ?_)
      | (refine WP.region (rvc_sound _ _ (Sm.out ?_)))
      | (refine WP.drawMk (ia := 10) (k := 11) mixed (by decide +kernel) (by decide +kernel) (by decide +kernel) (by decide +kernel) (Sm.out ?_))
      | (refine WP.drawK rfl mixed (by decide +kernel) (Sm.out ?_))
      | (refine Ob.mk ?_; focus (first | assumption | omega | decide | trivial | (intro hob; simp only [hob, ZF]; done) | (intros; (repeat' refine And.intro ?_ ?_) <;> first | assumption | omega | trivial | decide) | (intros; simp only [ZE] at *; (repeat' refine And.intro ?_ ?_) <;> first | assumption | omega | trivial)))
      | (refine And.intro (Ob.out ?_) ?_)
      | (refine WP.block ?_)
      | (refine WP.cond rfl (fun hc => ?_) (fun hc => ?_) <;> (try simp only [ZC, reduceCtorEq, ZD] at hc) <;> (try (exact absurd hc (by decide))) <;> (try (exfalso; omega)))
      | ((first | refine WP.skip ?_ | refine WP.exit ?_); simp only [SeqQ, BlkQ, LoopQ, BodyQ, ↓reduceIte, Nat.reduceEqDiff, reduceCtorEq, look, true_and])
      | (refine WP.ret (Sm.out ?_))
      | (first | refine ExG.no (Sm.out ?_) | refine Or.inl (ExG.no (Sm.out ?_)) | refine Or.inl (And.intro (fun hg => absurd hg (by decide)) (ExG.no (Sm.out ?_))))
      | (refine Rt.mk ?_; refine And.intro ?_ ?_ <;> (intro hg; first | exact absurd hg (by decide) | refine Sm.out ?_))
      | (refine Nu.mk ?_; first | (fail_if_success (have := nb1)); intro nb1 | (fail_if_success (have := nb2)); intro nb2 | (fail_if_success (have := nb3)); intro nb3 | (fail_if_success (have := nb4)); intro nb4 | (fail_if_success (have := nb5)); intro nb5 | (fail_if_success (have := nb6)); intro nb6 | intro nbz)
      | (refine Fr.mk ?_; intro hfr; (first | (have hFRb : _ ≤ _ ∧ _ ≤ _ := And.intro hfr.1 hfr.2.1) | skip); replace FR := Sm.mk (And.intro hfr FR.out); clear hfr; refine Sm.out ?_)
      | (refine Two.mk ?_ ?_)
      | (refine Cs.mk ?_; intro hcs; first | exact False.elim hcs | (exfalso; omega) | (refine Sm.out ?_))
      | go_step
      | omega
      | (simp only [maxLen_eq]; omega)
      | (refine Or.inr (Rt.mk ?_); refine And.intro ?_ ?_ <;> (intro hg; first | exact absurd hg (by decide) | refine Sm.out ?_))
    (refine OutQ.drop _ _ (pmm2 _ _ _) (by simp only [resv, ZK, look, loadv, loadn, loadnm, load1, load1m, hget, ↓reduceIte, Nat.reduceEqDiff, Nat.reduceAdd, Nat.reduceMul, Nat.reduceLeDiff, Nat.reduceLT, reduceCtorEq, TFRhJ, FR.out, List.length_drop, ea]) ⟨⟨(nb1, o), ho, hq⟩, (by simp only [resv, resA, ZK, look, loadv, loadn, loadnm, load1, load1m, hget, ↓reduceIte, Nat.reduceEqDiff, Nat.reduceAdd, Nat.reduceMul, Nat.reduceLeDiff, Nat.reduceLT, reduceCtorEq, TFRhJ, FR.out, List.length_drop, ea]; first | done | rfl), rfl⟩)
end Go.Proofs.Ytbnkmhlnoaebcaa
