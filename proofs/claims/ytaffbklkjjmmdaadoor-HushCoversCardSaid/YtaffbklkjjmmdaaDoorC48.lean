/-
  The walks and the laws that the statement leans on, part 48.
-/
import Derived.Test.YtaffbklkjjmmdaaDoorC9
import Derived.Test.YtaffbklkjjmmdaaDoorC35
import Derived.Test.YtaffbklkjjmmdaaDoorC36
import Derived.Test.YtaffbklkjjmmdaaDoorC47
namespace Go.Proofs.YtaffbklkjjmmdaaDoor
open Go Wi
set_option linter.unusedVariables false
set_option linter.unusedSimpArgs false
set_option linter.defProp false
def TFHuVP :=
  And.intro (And.intro (And.intro (And.intro (And.intro tyc0 (And.intro tyc2 zmb2)) (And.intro (And.intro tyc3 zmb3) (And.intro tyc4 zmb4))) (And.intro (And.intro tyc22 (And.intro elt22 mkz22)) (And.intro (And.intro mkc22 apT22) (And.intro elk22 zmb22)))) (And.intro (And.intro (And.intro tyc25 (And.intro foff25_0 fpart25_0)) (And.intro (And.intro foff25_1 fpart25_1) (And.intro foff25_2 fpart25_2))) (And.intro (And.intro (And.intro foff25_3 fpart25_3) (And.intro foff25_4 fpart25_4)) (And.intro (And.intro fe25 zmb25) (And.intro bldT25 tyc26))))) (And.intro (And.intro (And.intro (And.intro zmb26 (And.intro tyc32 foff32_0)) (And.intro (And.intro fpart32_0 foff32_1) (And.intro fpart32_1 foff32_2))) (And.intro (And.intro fpart32_2 (And.intro foff32_3 fpart32_3)) (And.intro (And.intro foff32_4 fpart32_4) (And.intro fe32 zmb32)))) (And.intro (And.intro (And.intro bldT32 (And.intro tyc62 zmb62)) (And.intro (And.intro tyc92 zmb92) (And.intro Tryd.underlying0 Tryd.underlying2))) (And.intro (And.intro (And.intro Tryd.underlying3 Tryd.underlying4) (And.intro Tryd.underlying22 Tryd.underlying25)) (And.intro (And.intro Tryd.underlying26 Tryd.underlying32) (And.intro Tryd.underlying62 Tryd.underlying92)))))
theorem Y1HuVP {G R : Prop} (r : R) (h : R → G := by intro r; first | (apply WP.region; exact rvc_sound _ _ (Sm.out r)) | exact WP.drawK rfl mixed (by decide +kernel) (Sm.out r) | (apply WP.block; exact r) | (apply WP.skip; exact Yq r) | (apply WP.exit; exact Yq r) | (apply WP.ret; exact Sm.out r) | exact WP.cond rfl (fun _ => r) (fun hg => absurd hg (by decide)) | exact WP.cond rfl (fun hg => absurd hg (by decide)) (fun _ => r) | exact Rt.mk (And.intro (fun _ => Sm.out r) fun hg => absurd hg (by decide)) | exact Rt.mk (And.intro (fun hg => absurd hg (by decide)) fun _ => Sm.out r)) : G := h r
theorem YzHuVP {G R : Prop} (r : R) (h : R → G := by intro r; first | (apply ExG.no; exact Sm.out r) | (apply Or.inl; apply ExG.no; exact Sm.out r) | exact Or.inl (And.intro (fun hg => absurd hg (by decide)) (ExG.no (Sm.out r)))) : G := h r
theorem YsHuVP0 {P Q : Prop} (q : Q) (h : P = Q := by (try (conv => lhs; simp -dsimp only [ZK, rvc, capA, appA, litL, mkfv, drawF, headN, pureH, stp, dvc, calleeOf, gcall, pev, eff, newB, okd, og, ogs, ogo, ogp, slv, bltv, opd, litv, strip, one, both, putE, St.put, look, gdOf, gdv, picka, pickv, pickw, binv, bini, bins, binb, binp, binq, isSlT, bina, shp, eqCells, unv, convv, nilv, faddv, addp, idxav, idxp, load1, load1m, loadn, loadnm, loadv, hget, hset, hrep, hdel, slicev, slice3v, bnd, shift1, lenv, capv, IntKind.bits, extractv, fieldv, indexv, min2v, max2v, mkiv, tasv, tasz, cellsA, fillA, buildv, stC, oneC, rowMB, intsA, plN, appE, appZ, appC, appS, srcB, appNZ, appNC, VwL, srcC, srcZ, srcM, isBoolT, isPtrT, isSliceT, uOk, Value.oneCell', Nat.reducePow, Int.reducePow, Nat.reduceAdd, Nat.reduceMul, Nat.reduceSub, Nat.reduceLT, Nat.reduceLeDiff, Nat.reduceEqDiff, Nat.reduceBEq, Nat.reduceDiv, Nat.reduceMod, ↓reduceIte, reduceCtorEq, Int.reduceToNat, Int.reduceLT, Int.reduceLE, TFHuVP, SeqQ, BlkQ, LoopQ, BodyQ, hin, FA.out, FR.out])) <;> exact rfl) : P := h.mpr q
theorem sort30 : SortOk 30 := by
  intro l x n k hn hl hk hf
  have hL : lenN n ≤ 5 := lenN_bd (by omega)
  have c1 : ACt Tryd.prog 65 [ms x 0 n k, iv .i64 0, iv .i64 (n : Int), iv .i64 ((lenN n : Nat) : Int), fCm] [(x, .cells (scs l) (k * 5) 32)] (fun r F' => ∃ g, (g.Perm l ∧ SegS g 0 n) ∧ r = .tup [] ∧ F' = [(x, .cells (scs g) (k * 5) 32)]) :=
    (pdq_all 31 l x n k 0 n (lenN n) hn hl hk (Nat.le_refl _) (Nat.zero_le _) (by omega) (by omega) hf (.inl rfl)).mono fun r F' ⟨g, h1, h2⟩ => ⟨g, ⟨h1.1, h1.2.1⟩, h2⟩
  have c1 := ACt.sub c1
  have c2 := len_ct n (by omega)
  unfold nu at c2
  obtain ⟨C, hC⟩ : ∃ C, C = scs l := ⟨_, rfl⟩
  rw [← hC] at c1 ⊢
  obtain ⟨L, hL⟩ : ∃ L : Int, ((lenN n : Nat) : Int) = L := ⟨_, rfl⟩
  rw [hL] at c2 c1
  have w3 : IntKind.u64.wrap (n : Int) = (n : Int) := wrap_u64 (by omega) (by omega)
  refine ACt.intro Tryd.func38 rfl (by kernel_rfl) (by simp [Tryd.ntmps38]) (fun cx => ?_)
  simp only [argE, Tryd.ntmps38, Tryd.results38]
  first | (have FRx := FR; clear FRx) | have FR := fr0S
  have FA := Sm.mk (And.intro TFHuVP w3)
  repeat' first | (apply Sm.mk; refine Ys ?_) | refine WP.seq fun K hK => ?_ | (apply Ob.mk; exact Yo) | refine And.intro (Ob.out ?_) ?_ | refine Y1HuVP ?_ | (first | refine CallV.fn (c2) (Sm.out ?_) | refine ExF.mk (c2) (Sm.out ?_) | refine ExG.mk (fun _ => c2) (Sm.out ?_) | refine ExG.mkJ (fun _ => c2) (Sm.out ?_) | refine ExG.mkI (Ob.out ?_) (fun _ => c2) (Sm.out ?_)) | (refine CallV.ex (F := [_]) (perm1 (by simp only [hget, hdel, ↓reduceIte, FR.out, w3]; first | done | rfl)) (c1) (fun g => Sm.out ?_)) | refine YzHuVP ?_ | (refine WP.cond rfl (fun hc => ?_) (fun hc => ?_) <;> (try simp only [ZC, reduceCtorEq, ZD] at hc) <;> (try exact absurd hc (by decide)) <;> (try (exfalso; omega))) | refine Rt.mk (And.intro (fun hg => Sm.out ?_) fun hg => Sm.out ?_) | (refine Nu.mk ?_; first | (fail_if_success have := nb1); intro nb1 | (fail_if_success have := nb2); intro nb2 | (fail_if_success have := nb3); intro nb3 | (fail_if_success have := nb4); intro nb4 | (fail_if_success have := nb5); intro nb5 | (fail_if_success have := nb6); intro nb6 | intro nbz) | (apply Yfr; refine Yf FR fun hFRb FR => ?_) | refine Two.mk ?_ ?_ | (apply Yxc; exact Yx) | refine Cs.mk fun hcs => Sm.out ?_ | go_step | omega | (simp only [maxLen_eq]; omega) | exact trivial
  obtain ⟨g, hg1, hg2⟩ := g
  (refine OutQ.drop _ _ (perm1 (by simp only [hget, hdel, ↓reduceIte, if_true, if_false, FR.out]; first | done | rfl)) (by simp only [resv, ZK, look, loadv, loadn, loadnm, load1, load1m, hget, ↓reduceIte, Nat.reduceEqDiff, Nat.reduceAdd, Nat.reduceMul, Nat.reduceLeDiff, Nat.reduceLT, reduceCtorEq, TFHuVP, FR.out]) ⟨g, ⟨hg1, hg2⟩, (by simp only [resv, resA, ZK, look, loadv, loadn, loadnm, load1, load1m, hget, ↓reduceIte, Nat.reduceEqDiff, Nat.reduceAdd, Nat.reduceMul, Nat.reduceLeDiff, Nat.reduceLT, reduceCtorEq, TFHuVP, FR.out]; first | done | rfl), rfl⟩)
theorem ab_t {s : Sl} {k : Ky} (h : abB s k = true) : s.t ≤ 253402300799 := by
  unfold abB srB at h
  simp only [Bool.and_eq_true, decide_eq_true_eq] at h
  omega
abbrev silTy : Ty := .st [.str, .str, .int .i64, .int .i64, .int .i64]
theorem sil_shp {xs : List AV} (h : Shp silTy xs) : ∃ s : Sl, xs = [.lit (.string s.nm), .lit (.string s.gl), iv .i64 s.w, iv .i64 s.f, iv .i64 s.t] ∧ (-9223372036854775808 ≤ s.w ∧ s.w ≤ 9223372036854775807) ∧ (-9223372036854775808 ≤ s.f ∧ s.f ≤ 9223372036854775807) ∧ (-9223372036854775808 ≤ s.t ∧ s.t ≤ 9223372036854775807) := by
  simp only [Shp, ShpL] at h
  obtain ⟨_, _, rfl, ⟨a, rfl, ha⟩, _, _, rfl, ⟨b, rfl, hb⟩, _, _, rfl, ⟨c, rfl, hc⟩, _, _, rfl, ⟨d, rfl, hd⟩, _, _, rfl, ⟨e, rfl, he⟩, rfl⟩ := h
  exact ⟨⟨a, b, c, d, e⟩, rfl, wf_i64 hc, wf_i64 hd, wf_i64 he⟩
abbrev keyTy : Ty := .st [.str, .str, .bool, .int .u64, .bool]
theorem key_shp {xs : List AV} (h : Shp keyTy xs) : ∃ k : Ky, xs = [.lit (.string k.g), .lit (.string k.r), bv k.p, iv .u64 k.e, bv k.s] := by
  simp only [Shp, ShpL] at h
  obtain ⟨_, _, rfl, ⟨a, rfl, ha⟩, _, _, rfl, ⟨b, rfl, hb⟩, _, _, rfl, ⟨c, rfl⟩, _, _, rfl, ⟨d, rfl, hd⟩, _, _, rfl, ⟨e, rfl⟩, rfl⟩ := h
  exact ⟨⟨a, b, c, d, e⟩, rfl⟩
theorem sil_rows : ∀ (rows : List (List AV)), (∀ r ∈ rows, Shp silTy r) → ∃ L : List Sl, L.length = rows.length ∧ rows.flatten = scs L
  | [], _ => ⟨[], rfl, rfl⟩
  | r :: rows, h => by
    obtain ⟨L, l1, l2⟩ := sil_rows rows fun x hx => h x (List.mem_cons_of_mem _ hx)
    obtain ⟨s, rfl, -⟩ := sil_shp (h r (List.mem_cons_self ..))
    exact ⟨s :: L, by simp [l1], by simp [l2, scs]⟩
set_option maxRecDepth 20000 in
set_option maxHeartbeats 8000000 in
theorem covers_all (l : List Sl) (k : Ky) (now st : Int) (n : Nat) (hn : l.length = n) (hnow : -9223372036854775808 ≤ now ∧ now ≤ 9223372036854775807) (hst : 0 ≤ st ∧ st ≤ 4294967295) (n0 n1 : Nat) :
    ACt Tryd.prog 3 [.sl n (scs l), kv k, iv .i64 now, iv .u32 st] [(0, .ro .u8 fsZ 256 n0), (1, .ro .u8 acZ 32 n1)] (fun r F' => r = bv true ∧ F' = [(0, .ro .u8 fsZ 256 n0), (1, .ro .u8 acZ 32 n1)]) := by
  have cA := awake_ct n0 n1
  have cH := lheavy_ct l n hn
  have cK := heavy_ct k
  obtain ⟨h1, hh1⟩ : ∃ x, hvL l = x := ⟨_, rfl⟩
  obtain ⟨h2, hh2⟩ : ∃ x, hvB k = x := ⟨_, rfl⟩
  rw [hh1] at cH
  rw [hh2] at cK
  cases h1 with
  | true =>
    clear cK
    obtain ⟨FZ, hFZ⟩ : ∃ FZ, FZ = fsZ := ⟨_, rfl⟩
    obtain ⟨AZ, hAZ⟩ : ∃ AZ, AZ = acZ := ⟨_, rfl⟩
    rw [← hFZ, ← hAZ] at cA ⊢
    obtain ⟨C, hC⟩ : ∃ C, C = scs l := ⟨_, rfl⟩
    rw [← hC] at cH ⊢
    refine ACt.intro Tryd.func3 rfl (by kernel_rfl) (by simp [Tryd.ntmps3]) (fun cx => ?_)
    simp only [argE, Tryd.ntmps3, Tryd.results3]
    first | (have FRx := FR; clear FRx) | have FR := fr0S
    have FA := Sm.mk (TFHuVP)
    repeat' first | (apply Sm.mk; refine Ys ?_) | refine WP.seq fun K hK => ?_ | (apply Ob.mk; exact Yo) | refine And.intro (Ob.out ?_) ?_ | refine Y1HuVP ?_ | refine Yl2 (c := cA) (r := ?_) | refine Yc (c := cH) (r := ?_) | refine YzHuVP ?_ | (refine WP.cond rfl (fun hc => ?_) (fun hc => ?_) <;> (try simp only [ZC, reduceCtorEq, ZD] at hc) <;> (try exact absurd hc (by decide)) <;> (try (exfalso; omega))) | refine Rt.mk (And.intro (fun hg => Sm.out ?_) fun hg => Sm.out ?_) | (refine Nu.mk ?_; first | (fail_if_success have := nb1); intro nb1 | (fail_if_success have := nb2); intro nb2 | (fail_if_success have := nb3); intro nb3 | (fail_if_success have := nb4); intro nb4 | (fail_if_success have := nb5); intro nb5 | (fail_if_success have := nb6); intro nb6 | intro nbz) | (apply Yfr; refine Yf FR fun hFRb FR => ?_) | refine Two.mk ?_ ?_ | (apply Yxc; exact Yx) | refine Cs.mk fun hcs => Sm.out ?_ | go_step | omega | (simp only [maxLen_eq]; omega) | exact trivial
    (refine OutQ.drop _ _ (perm2 (by simp only [hget, hdel, ↓reduceIte, if_true, if_false, FR.out]; first | done | rfl) (by simp only [hget, hdel, ↓reduceIte, if_true, if_false, FR.out]; first | done | rfl)) (by simp only [resv, ZK, look, loadv, loadn, loadnm, load1, load1m, hget, ↓reduceIte, Nat.reduceEqDiff, Nat.reduceAdd, Nat.reduceMul, Nat.reduceLeDiff, Nat.reduceLT, reduceCtorEq, TFHuVP, FR.out]) ⟨(by simp only [resv, resA, ZK, look, loadv, loadn, loadnm, load1, load1m, hget, ↓reduceIte, Nat.reduceEqDiff, Nat.reduceAdd, Nat.reduceMul, Nat.reduceLeDiff, Nat.reduceLT, reduceCtorEq, TFHuVP, FR.out]; first | done | rfl), rfl⟩)
  | false =>
  cases h2 with
  | true =>
    obtain ⟨FZ, hFZ⟩ : ∃ FZ, FZ = fsZ := ⟨_, rfl⟩
    obtain ⟨AZ, hAZ⟩ : ∃ AZ, AZ = acZ := ⟨_, rfl⟩
    rw [← hFZ, ← hAZ] at cA ⊢
    obtain ⟨C, hC⟩ : ∃ C, C = scs l := ⟨_, rfl⟩
    rw [← hC] at cH ⊢
    obtain ⟨kg, kr, kp, ke, ks⟩ := k
    try simp only at cK ⊢
    refine ACt.intro Tryd.func3 rfl (by kernel_rfl) (by simp [Tryd.ntmps3]) (fun cx => ?_)
    simp only [argE, Tryd.ntmps3, Tryd.results3]
    first | (have FRx := FR; clear FRx) | have FR := fr0S
    have FA := Sm.mk (TFHuVP)
    repeat' first | (apply Sm.mk; refine Ys ?_) | refine WP.seq fun K hK => ?_ | (apply Ob.mk; exact Yo) | refine And.intro (Ob.out ?_) ?_ | refine Y1HuVP ?_ | refine Yl2 (c := cA) (r := ?_) | refine Yc (c := cH) (r := ?_) | refine Yc (c := cK) (r := ?_) | refine YzHuVP ?_ | (refine WP.cond rfl (fun hc => ?_) (fun hc => ?_) <;> (try simp only [ZC, reduceCtorEq, ZD] at hc) <;> (try exact absurd hc (by decide)) <;> (try (exfalso; omega))) | refine Rt.mk (And.intro (fun hg => Sm.out ?_) fun hg => Sm.out ?_) | (refine Nu.mk ?_; first | (fail_if_success have := nb1); intro nb1 | (fail_if_success have := nb2); intro nb2 | (fail_if_success have := nb3); intro nb3 | (fail_if_success have := nb4); intro nb4 | (fail_if_success have := nb5); intro nb5 | (fail_if_success have := nb6); intro nb6 | intro nbz) | (apply Yfr; refine Yf FR fun hFRb FR => ?_) | refine Two.mk ?_ ?_ | (apply Yxc; exact Yx) | refine Cs.mk fun hcs => Sm.out ?_ | go_step | omega | (simp only [maxLen_eq]; omega) | exact trivial
    (refine OutQ.drop _ _ (perm2 (by simp only [hget, hdel, ↓reduceIte, if_true, if_false, FR.out]; first | done | rfl) (by simp only [hget, hdel, ↓reduceIte, if_true, if_false, FR.out]; first | done | rfl)) (by simp only [resv, ZK, look, loadv, loadn, loadnm, load1, load1m, hget, ↓reduceIte, Nat.reduceEqDiff, Nat.reduceAdd, Nat.reduceMul, Nat.reduceLeDiff, Nat.reduceLT, reduceCtorEq, TFHuVP, FR.out]) ⟨(by simp only [resv, resA, ZK, look, loadv, loadn, loadnm, load1, load1m, hget, ↓reduceIte, Nat.reduceEqDiff, Nat.reduceAdd, Nat.reduceMul, Nat.reduceLeDiff, Nat.reduceLT, reduceCtorEq, TFHuVP, FR.out]; first | done | rfl), rfl⟩)
  | false =>
  obtain ⟨hl30, hz⟩ := hvL_f hh1
  have hkg : k.g.size ≤ 5000 := by
    unfold hvB at hh2
    simp only [Bool.or_eq_false_iff, decide_eq_false_iff_not] at hh2
    omega
  have hCl := scs_len l
  have hdr := scs_drop l
  rw [hn] at hCl hl30
  have cSr := fun i (h : i < l.length) => sright_ct l[i] (hz _ (List.getElem_mem h)) n0 n1
  have cRs := fun i (h : i < l.length) => rsright_ct l[i] (hz _ (List.getElem_mem h))
  have cCo := fun i (h : i < l.length) => covers_ct l[i] k now (hz _ (List.getElem_mem h)) hkg n0 n1
  have cRc := fun i (h : i < l.length) => rcovers_ct l[i] k now (hz _ (List.getElem_mem h)) hkg
  have cU := until_ct 30 (by omega) sort30 l k now n hn hl30 hz hkg n0 n1
  have cRu := runtil_ct l k now n hn (by omega) hz hkg
  have cQ := fun t => quiet_ct l k t n hn (by omega) hz hkg n0 n1
  have cRq := rquiet_ct l k now n hn (by omega) hz hkg
  obtain ⟨u1, u2, u3, u4, u5⟩ := untV_spec l k now
  have hub : untV l k now ≠ now → 0 ≤ now ∧ untV l k now ≤ 253402300799 := fun hne => by
    refine ⟨qt_nn (u2 now (Int.le_refl _) (by omega)), ?_⟩
    rcases u4 with h | ⟨s, hs, ha, h⟩
    · exact absurd h hne
    · rw [h]; exact ab_t ha
  clear u4 u5
  obtain ⟨u, hu⟩ : ∃ u, untV l k now = u := ⟨_, rfl⟩
  rw [hu] at cU cRu u1 u2 u3 hub
  obtain ⟨qt, hqt⟩ : ∃ qt, qtB l k = qt := ⟨_, rfl⟩
  rw [hqt] at cRq u2 u3
  simp only [hqt] at cQ
  obtain ⟨FZ, hFZ⟩ : ∃ FZ, FZ = fsZ := ⟨_, rfl⟩
  obtain ⟨AZ, hAZ⟩ : ∃ AZ, AZ = acZ := ⟨_, rfl⟩
  rw [← hFZ, ← hAZ] at cA cU ⊢
  simp only [← hFZ, ← hAZ] at cSr cCo cQ
  obtain ⟨C, hC⟩ : ∃ C, C = scs l := ⟨_, rfl⟩
  simp only [← hC] at cH cU cRu cQ cRq hCl hdr ⊢
  clear hC hFZ hAZ hqt hu hh1 hh2 hkg
  obtain ⟨kg, kr, kp, ke, ks⟩ := k
  try simp only at cK
  try simp only at cCo
  try simp only at cRc
  try simp only at cU
  try simp only at cRu
  try simp only at cQ
  try simp only at cRq
  try simp only
  refine ACt.intro Tryd.func3 rfl (by kernel_rfl) (by simp [Tryd.ntmps3]) (fun cx => ?_)
  simp only [argE, Tryd.ntmps3, Tryd.results3]
  first | (have FRx := FR; clear FRx) | have FR := fr0S
  have FA := Sm.mk (TFHuVP)
  repeat' first | (apply Sm.mk; refine Ys ?_) | refine WP.seq fun K hK => ?_ | (apply Ob.mk; exact Yo) | refine And.intro (Ob.out ?_) ?_ | refine Y1HuVP ?_ | refine Yl2 (c := cA) (r := ?_) | refine Yc (c := cH) (r := ?_) | refine Yc (c := cK) (r := ?_) | refine YzHuVP ?_ | (refine WP.cond rfl (fun hc => ?_) (fun hc => ?_) <;> (try simp only [ZC, reduceCtorEq, ZD] at hc) <;> (try exact absurd hc (by decide)) <;> (try (exfalso; omega))) | refine Rt.mk (And.intro (fun hg => Sm.out ?_) fun hg => Sm.out ?_) | (refine Nu.mk ?_; first | (fail_if_success have := nb1); intro nb1 | (fail_if_success have := nb2); intro nb2 | (fail_if_success have := nb3); intro nb3 | (fail_if_success have := nb4); intro nb4 | (fail_if_success have := nb5); intro nb5 | (fail_if_success have := nb6); intro nb6 | intro nbz) | (apply Yfr; refine Yf FR fun hFRb FR => ?_) | refine Two.mk ?_ ?_ | (apply Yxc; exact Yx) | refine Cs.mk fun hcs => Sm.out ?_ | go_step | omega | (simp only [maxLen_eq]; omega) | exact trivial
  refine WP.loop (Γ := Nat) (fun i => ⟨[(9, iv .i64 (i : Int)), (0, .sl n C), (5, pt nb1 0), (2, iv .i64 now), (3, iv .u32 st)], [(nb1, .cells [.lit (.string kg), .lit (.string kr), bv kp, iv .u64 ke, bv ks] 5 25), (0, .ro .u8 FZ 256 n0), (1, .ro .u8 AZ 32 n1)]⟩) (fun i => i ≤ n) (fun i => n - i) 0 (Nat.zero_le _) (Sub.pick (by simp [pickB, hget, hdel, FR.out]) (by simp [look])) ?_
  intro i hi
  have hx0 : (0 : Nat) ≠ nb1 ∧ nb1 ≠ 0 ∧ 1 ≠ nb1 ∧ nb1 ≠ 1 := by simp [FR.out]
  have FR : Sm (¬ ((1 : Nat) = 0)) := Sm.mk Nat.one_ne_zero
  by_cases hin : i < n
  · have ki : decide ((i : Int) < (n : Int)) = true := decide_eq_true (by omega)
    have s1 : IntKind.i64.wrap ((i : Int) + 1) = ((i + 1 : Nat) : Int) := by rw [wrap_i64 (by omega) (by omega)]; omega
    have hd := hdr i (by omega)
    have c9 := cSr i (by omega)
    have c10 := cRs i (by omega)
    have c11 := cCo i (by omega)
    have c12 := cRc i (by omega)
    clear cSr cRs cCo cRc hdr cU cRu cQ cRq cA cH cK
    have q1 : (i + 1) * 5 ≤ C.length := by omega
    obtain ⟨e, he⟩ : ∃ e, e = l[i] := ⟨_, rfl⟩
    rw [← he] at hd c9 c10 c11 c12
    obtain ⟨z1, hz1⟩ : ∃ z, srB e = z := ⟨_, rfl⟩
    obtain ⟨z2, hz2⟩ : ∃ z, cvB ⟨kg, kr, kp, ke, ks⟩ now e = z := ⟨_, rfl⟩
    rw [hz1] at c9 c10
    rw [hz2] at c11 c12
    have m1 : (z1 != z1) = false := by simp
    have m2 : (z2 != z2) = false := by simp
    clear he hz1 hz2
    obtain ⟨en, eg, ew, ef, et⟩ := e
    try simp only at hd
    try simp only at c9
    try simp only at c10
    try simp only at c11
    try simp only at c12
    first | (have FRx := FR; clear FRx) | have FR := fr0S
    have FA := Sm.mk (And.intro TFHuVP (And.intro ki (And.intro hd (And.intro q1 (And.intro s1 (And.intro m1 (And.intro m2 hx0)))))))
    repeat' first | (apply Sm.mk; refine YsHuVP0 ?_) | refine WP.seq fun K hK => ?_ | (apply Ob.mk; exact Yo) | refine And.intro (Ob.out ?_) ?_ | refine Y1HuVP ?_ | (refine CallV.updM (c9) (perm2 (by simp only [hget, hdel, ↓reduceIte, FR.out, ki, hd, q1, hin, s1, m1, m2, hx0]; first | done | rfl) (by simp only [hget, hdel, ↓reduceIte, FR.out, ki, hd, q1, hin, s1, m1, m2, hx0]; first | done | rfl)) (Sm.out ?_)) | ((first | refine ExF.up ?_ (c9) (Sm.out ?_) | refine ExG.up ?_ (fun _ => c9) (Sm.out ?_) | refine ExG.upJ ?_ (fun _ => c9) (Sm.out ?_) | refine ExG.upI ?_ (fun _ => c9) (Ob.out ?_) (Sm.out ?_)); focus (exact ⟨_, (perm2 (by simp only [hget, hdel, ↓reduceIte, FR.out, ki, hd, q1, hin, s1, m1, m2, hx0]; first | done | rfl) (by simp only [hget, hdel, ↓reduceIte, FR.out, ki, hd, q1, hin, s1, m1, m2, hx0]; first | done | rfl))⟩)) | (first | refine CallV.fn (c10) (Sm.out ?_) | refine ExF.mk (c10) (Sm.out ?_) | refine ExG.mk (fun _ => c10) (Sm.out ?_) | refine ExG.mkJ (fun _ => c10) (Sm.out ?_) | refine ExG.mkI (Ob.out ?_) (fun _ => c10) (Sm.out ?_)) | (refine CallV.updM (c11) (perm2 (by simp only [hget, hdel, ↓reduceIte, FR.out, ki, hd, q1, hin, s1, m1, m2, hx0]; first | done | rfl) (by simp only [hget, hdel, ↓reduceIte, FR.out, ki, hd, q1, hin, s1, m1, m2, hx0]; first | done | rfl)) (Sm.out ?_)) | ((first | refine ExF.up ?_ (c11) (Sm.out ?_) | refine ExG.up ?_ (fun _ => c11) (Sm.out ?_) | refine ExG.upJ ?_ (fun _ => c11) (Sm.out ?_) | refine ExG.upI ?_ (fun _ => c11) (Ob.out ?_) (Sm.out ?_)); focus (exact ⟨_, (perm2 (by simp only [hget, hdel, ↓reduceIte, FR.out, ki, hd, q1, hin, s1, m1, m2, hx0]; first | done | rfl) (by simp only [hget, hdel, ↓reduceIte, FR.out, ki, hd, q1, hin, s1, m1, m2, hx0]; first | done | rfl))⟩)) | (first | refine CallV.fn (c12) (Sm.out ?_) | refine ExF.mk (c12) (Sm.out ?_) | refine ExG.mk (fun _ => c12) (Sm.out ?_) | refine ExG.mkJ (fun _ => c12) (Sm.out ?_) | refine ExG.mkI (Ob.out ?_) (fun _ => c12) (Sm.out ?_)) | refine YzHuVP ?_ | (refine WP.cond rfl (fun hc => ?_) (fun hc => ?_) <;> (try simp only [ZC, reduceCtorEq, ZD] at hc) <;> (try exact absurd hc (by decide)) <;> (try (exfalso; omega))) | refine Rt.mk (And.intro (fun hg => Sm.out ?_) fun hg => Sm.out ?_) | (refine Nu.mk ?_; first | (fail_if_success have := nb1); intro nb1 | (fail_if_success have := nb2); intro nb2 | (fail_if_success have := nb3); intro nb3 | (fail_if_success have := nb4); intro nb4 | (fail_if_success have := nb5); intro nb5 | (fail_if_success have := nb6); intro nb6 | intro nbz) | (apply Yfr; refine Yf FR fun hFRb FR => ?_) | refine Two.mk ?_ ?_ | (apply Yxc; exact Yx) | refine Cs.mk fun hcs => Sm.out ?_ | go_step | omega | (simp only [maxLen_eq]; omega) | exact trivial
    exact ⟨i + 1, by omega, by omega, (Sub.pick (by simp [pickB, hget, hdel, FR.out, hx0]) (by simp [look, hx0]))⟩
  · have ki : decide ((i : Int) < (n : Int)) = false := decide_eq_false (by omega)
    clear cSr cRs cCo cRc hdr cA cH cK
    obtain ⟨z, hzq⟩ : ∃ z, qt now = z := ⟨_, rfl⟩
    have cN := cQ now
    rw [hzq] at cN cRq
    have cX := cQ u
    rw [u3] at cX
    have m1 : (z != z) = false := by simp
    have m2 : (u != u) = false := by simp
    have m3 : decide (u < now) = false := decide_eq_false (by omega)
    by_cases hun : u = now
    · have ku : (u == now) = true := beq_iff_eq.2 hun
      first | (have FRx := FR; clear FRx) | have FR := fr0S
      have FA := Sm.mk (And.intro TFHuVP (And.intro ki (And.intro m1 (And.intro m2 (And.intro m3 (And.intro ku hx0))))))
      repeat' first | (apply Sm.mk; refine Ys ?_) | refine WP.seq fun K hK => ?_ | (apply Ob.mk; exact Yo) | refine And.intro (Ob.out ?_) ?_ | refine Y1HuVP ?_ | refine Yl2 (c := cU) (r := ?_) | refine Yl2 (c := cN) (r := ?_) | refine Yc (c := cRq) (r := ?_) | refine Yc (c := cRu) (r := ?_) | refine Yl2 (c := cX) (r := ?_) | refine YzHuVP ?_ | (refine WP.cond rfl (fun hc => ?_) (fun hc => ?_) <;> (try simp only [ZC, reduceCtorEq, ZD] at hc) <;> (try exact absurd hc (by decide)) <;> (try (exfalso; omega))) | refine Rt.mk (And.intro (fun hg => Sm.out ?_) fun hg => Sm.out ?_) | (refine Nu.mk ?_; first | (fail_if_success have := nb1); intro nb1 | (fail_if_success have := nb2); intro nb2 | (fail_if_success have := nb3); intro nb3 | (fail_if_success have := nb4); intro nb4 | (fail_if_success have := nb5); intro nb5 | (fail_if_success have := nb6); intro nb6 | intro nbz) | (apply Yfr; refine Yf FR fun hFRb FR => ?_) | refine Two.mk ?_ ?_ | (apply Yxc; exact Yx) | refine Cs.mk fun hcs => Sm.out ?_ | go_step | omega | (simp only [maxLen_eq]; omega) | exact trivial
      (refine OutQ.drop _ _ (perm2 (by simp only [hget, hdel, ↓reduceIte, if_true, if_false, FR.out, hx0]; first | done | rfl) (by simp only [hget, hdel, ↓reduceIte, if_true, if_false, FR.out, hx0]; first | done | rfl)) (by simp only [resv, ZK, look, loadv, loadn, loadnm, load1, load1m, hget, ↓reduceIte, Nat.reduceEqDiff, Nat.reduceAdd, Nat.reduceMul, Nat.reduceLeDiff, Nat.reduceLT, reduceCtorEq, TFHuVP, FR.out, hx0]) ⟨(by simp only [resv, resA, ZK, look, loadv, loadn, loadnm, load1, load1m, hget, ↓reduceIte, Nat.reduceEqDiff, Nat.reduceAdd, Nat.reduceMul, Nat.reduceLeDiff, Nat.reduceLT, reduceCtorEq, TFHuVP, FR.out, hx0]; first | done | rfl), rfl⟩)
    · have ku : (u == now) = false := beq_eq_false_iff_ne.2 hun
      obtain ⟨hb1, hb2⟩ := hub hun
      obtain ⟨d, hd⟩ : ∃ d, d = u - now := ⟨_, rfl⟩
      have w1 : IntKind.i64.wrap (u - now) = d := by rw [wrap_i64 (by omega) (by omega)]; exact hd.symm
      have w2 : IntKind.i64.wrap st = st := wrap_i64 (by omega) (by omega)
      have hd0 : d ≠ 0 := by omega
      have hm1 := Int.tmod_nonneg d hst.1
      have hm2 := Int.tmod_lt_of_pos st (show 0 < d by omega)
      obtain ⟨m, hm⟩ : ∃ m, st.tmod d = m := ⟨_, rfl⟩
      rw [hm] at hm1 hm2
      obtain ⟨t, ht⟩ : ∃ t, t = now + m := ⟨_, rfl⟩
      have w3 : IntKind.i64.wrap (now + m) = t := by rw [wrap_i64 (by omega) (by omega)]; exact ht.symm
      have w4 : IntKind.i64.wrap (u - 1) = u - 1 := wrap_i64 (by omega) (by omega)
      have cT := cQ t
      have cL := cQ (u - 1)
      rw [u2 t (by omega) (by omega)] at cT
      rw [u2 (u - 1) (by omega) (by omega)] at cL
      clear hd ht
      first | (have FRx := FR; clear FRx) | have FR := fr0S
      have FA := Sm.mk (And.intro TFHuVP (And.intro ki (And.intro m1 (And.intro m2 (And.intro m3 (And.intro ku hx0))))))
      repeat' first | (apply Sm.mk; refine Ys ?_) | refine WP.seq fun K hK => ?_ | (apply Ob.mk; exact Yo) | refine And.intro (Ob.out ?_) ?_ | ((fail_if_success (show WP _ _ _ (.region 15 _ _) _ _)); refine Y1HuVP ?_) | refine Yl2 (c := cU) (r := ?_) | refine Yl2 (c := cN) (r := ?_) | refine Yc (c := cRq) (r := ?_) | refine Yc (c := cRu) (r := ?_) | refine Yl2 (c := cX) (r := ?_) | refine YzHuVP ?_ | (refine WP.cond rfl (fun hc => ?_) (fun hc => ?_) <;> (try simp only [ZC, reduceCtorEq, ZD] at hc) <;> (try exact absurd hc (by decide)) <;> (try (exfalso; omega))) | refine Rt.mk (And.intro (fun hg => Sm.out ?_) fun hg => Sm.out ?_) | (refine Nu.mk ?_; first | (fail_if_success have := nb1); intro nb1 | (fail_if_success have := nb2); intro nb2 | (fail_if_success have := nb3); intro nb3 | (fail_if_success have := nb4); intro nb4 | (fail_if_success have := nb5); intro nb5 | (fail_if_success have := nb6); intro nb6 | intro nbz) | (apply Yfr; refine Yf FR fun hFRb FR => ?_) | refine Two.mk ?_ ?_ | (apply Yxc; exact Yx) | refine Cs.mk fun hcs => Sm.out ?_ | go_step | omega | (simp only [maxLen_eq]; omega) | exact trivial
      first | (have FRx := FR; clear FRx) | have FR := fr0S
      have FA := Sm.mk (And.intro TFHuVP (And.intro w1 (And.intro w2 (And.intro w3 (And.intro w4 (And.intro hd0 (And.intro hm hx0)))))))
      repeat' first | (apply Sm.mk; refine Ys ?_) | refine WP.seq fun K hK => ?_ | (apply Ob.mk; exact Yo) | refine And.intro (Ob.out ?_) ?_ | refine Y1HuVP ?_ | refine Yl2 (c := cT) (r := ?_) | refine Yl2 (c := cL) (r := ?_) | refine YzHuVP ?_ | (refine WP.cond rfl (fun hc => ?_) (fun hc => ?_) <;> (try simp only [ZC, reduceCtorEq, ZD] at hc) <;> (try exact absurd hc (by decide)) <;> (try (exfalso; omega))) | refine Rt.mk (And.intro (fun hg => Sm.out ?_) fun hg => Sm.out ?_) | (refine Nu.mk ?_; first | (fail_if_success have := nb1); intro nb1 | (fail_if_success have := nb2); intro nb2 | (fail_if_success have := nb3); intro nb3 | (fail_if_success have := nb4); intro nb4 | (fail_if_success have := nb5); intro nb5 | (fail_if_success have := nb6); intro nb6 | intro nbz) | (apply Yfr; refine Yf FR fun hFRb FR => ?_) | refine Two.mk ?_ ?_ | (apply Yxc; exact Yx) | refine Cs.mk fun hcs => Sm.out ?_ | go_step | omega | (simp only [maxLen_eq]; omega) | exact trivial
      (refine OutQ.drop _ _ (perm2 (by simp only [hget, hdel, ↓reduceIte, if_true, if_false, FR.out, hx0]; first | done | rfl) (by simp only [hget, hdel, ↓reduceIte, if_true, if_false, FR.out, hx0]; first | done | rfl)) (by simp only [resv, ZK, look, loadv, loadn, loadnm, load1, load1m, hget, ↓reduceIte, Nat.reduceEqDiff, Nat.reduceAdd, Nat.reduceMul, Nat.reduceLeDiff, Nat.reduceLT, reduceCtorEq, TFHuVP, FR.out, hx0]) ⟨(by simp only [resv, resA, ZK, look, loadv, loadn, loadnm, load1, load1m, hget, ↓reduceIte, Nat.reduceEqDiff, Nat.reduceAdd, Nat.reduceMul, Nat.reduceLeDiff, Nat.reduceLT, reduceCtorEq, TFHuVP, FR.out, hx0]; first | done | rfl), rfl⟩)
theorem covers_law {y : AV} {xs : List AV} {now st : Int} (hy : Shp (.sl silTy) [y]) (hx : Shp keyTy xs) (hnow : -9223372036854775808 ≤ now ∧ now ≤ 9223372036854775807) (hst : 0 ≤ st ∧ st ≤ 4294967295) (n0 n1 : Nat) : ACt Tryd.prog 3 [y, .agg xs, iv .i64 now, iv .u32 st] [(0, .ro .u8 fsZ 256 n0), (1, .ro .u8 acZ 32 n1)] (fun r F' => r = bv true ∧ F' = [(0, .ro .u8 fsZ 256 n0), (1, .ro .u8 acZ 32 n1)]) := by
  unfold Shp at hy
  obtain ⟨rows, e, hr⟩ := hy
  obtain rfl : y = _ := (List.cons.inj e).1
  obtain ⟨L, l1, l2⟩ := sil_rows rows hr
  rw [l2]
  obtain ⟨k, rfl⟩ := key_shp hx
  exact covers_all L k now st rows.length l1 hnow hst n0 n1
end Go.Proofs.YtaffbklkjjmmdaaDoor
