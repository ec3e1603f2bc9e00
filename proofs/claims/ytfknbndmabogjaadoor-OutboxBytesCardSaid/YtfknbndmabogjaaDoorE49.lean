/-
  The walks and the laws that the statement leans on, part 49.
-/
import Derived.Test.YtfknbndmabogjaaDoorE10
import Derived.Test.YtfknbndmabogjaaDoorE48
namespace Go.Proofs.YtfknbndmabogjaaDoor
open Go Wi
set_option linter.unusedVariables false
set_option linter.unusedSimpArgs false
set_option linter.defProp false
def TFOuCB :=
  And.intro (And.intro (And.intro (And.intro (And.intro (And.intro tyc0 tyc2) (And.intro zmb2 tyc3)) (And.intro (And.intro zmb3 tyc4) (And.intro zmb4 tyc5))) (And.intro (And.intro (And.intro zmb5 tyc24) (And.intro elt24 mkz24)) (And.intro (And.intro mkc24 apT24) (And.intro elk24 (And.intro zmb24 tyc25))))) (And.intro (And.intro (And.intro (And.intro zmb25 tyc27) (And.intro foff27_0 fpart27_0)) (And.intro (And.intro foff27_1 fpart27_1) (And.intro zmb27 bldT27))) (And.intro (And.intro (And.intro tyc29 foff29_0) (And.intro fpart29_0 foff29_1)) (And.intro (And.intro fpart29_1 foff29_2) (And.intro fpart29_2 (And.intro foff29_3 fpart29_3)))))) (And.intro (And.intro (And.intro (And.intro (And.intro foff29_4 fpart29_4) (And.intro fe29 zmb29)) (And.intro (And.intro bldT29 tyc38) (And.intro foff38_0 fpart38_0))) (And.intro (And.intro (And.intro foff38_1 fpart38_1) (And.intro foff38_2 fpart38_2)) (And.intro (And.intro foff38_3 fpart38_3) (And.intro foff38_4 (And.intro fpart38_4 zmb38))))) (And.intro (And.intro (And.intro (And.intro bldT38 tyc53) (And.intro elt53 mkz53)) (And.intro (And.intro apT53 elk53) (And.intro zmb53 (And.intro Tryd.underlying0 Tryd.underlying2)))) (And.intro (And.intro (And.intro Tryd.underlying3 Tryd.underlying4) (And.intro Tryd.underlying5 Tryd.underlying24)) (And.intro (And.intro Tryd.underlying25 Tryd.underlying27) (And.intro Tryd.underlying29 (And.intro Tryd.underlying38 Tryd.underlying53))))))
theorem Y1OuCB {G R : Prop} (r : R) (h : R → G := by intro r; first | (apply WP.region; exact rvc_sound _ _ (Sm.out r)) | exact WP.drawK rfl mixed (by decide +kernel) (Sm.out r) | (apply WP.block; exact r) | (apply WP.skip; exact Yq r) | (apply WP.exit; exact Yq r) | (apply WP.ret; exact Sm.out r) | exact WP.cond rfl (fun _ => r) (fun hg => absurd hg (by decide)) | exact WP.cond rfl (fun hg => absurd hg (by decide)) (fun _ => r) | exact Rt.mk (And.intro (fun _ => Sm.out r) fun hg => absurd hg (by decide)) | exact Rt.mk (And.intro (fun hg => absurd hg (by decide)) fun _ => Sm.out r)) : G := h r
theorem YzOuCB {G R : Prop} (r : R) (h : R → G := by intro r; first | (apply ExG.no; exact Sm.out r) | (apply Or.inl; apply ExG.no; exact Sm.out r) | exact Or.inl (And.intro (fun hg => absurd hg (by decide)) (ExG.no (Sm.out r)))) : G := h r
theorem YsOuCB0 {P Q : Prop} (q : Q) (h : P = Q := by (try (conv => lhs; simp -dsimp only [ZK, rvc, capA, appA, litL, mkfv, drawF, headN, pureH, stp, dvc, calleeOf, gcall, pev, eff, newB, okd, og, ogs, ogo, ogp, slv, bltv, opd, litv, strip, one, both, putE, St.put, look, gdOf, gdv, picka, pickv, pickw, binv, bini, bins, binb, binp, binq, isSlT, bina, shp, eqCells, unv, convv, nilv, faddv, addp, idxav, idxp, load1, load1m, loadn, loadnm, loadv, hget, hset, hrep, hdel, slicev, slice3v, bnd, shift1, lenv, capv, IntKind.bits, extractv, fieldv, indexv, min2v, max2v, mkiv, tasv, tasz, cellsA, fillA, buildv, stC, oneC, rowMB, intsA, plN, appE, appZ, appC, appS, srcB, appNZ, appNC, VwL, srcC, srcZ, srcM, isBoolT, isPtrT, isSliceT, uOk, Value.oneCell', Nat.reducePow, Int.reducePow, Nat.reduceAdd, Nat.reduceMul, Nat.reduceSub, Nat.reduceLT, Nat.reduceLeDiff, Nat.reduceEqDiff, Nat.reduceBEq, Nat.reduceDiv, Nat.reduceMod, ↓reduceIte, reduceCtorEq, Int.reduceToNat, Int.reduceLT, Int.reduceLE, TFOuCB, SeqQ, BlkQ, LoopQ, BodyQ, hin, FA.out, FR.out])) <;> exact rfl) : P := h.mpr q
set_option maxHeartbeats 8000000 in
set_option maxRecDepth 8000 in
theorem rbput_ct (b : Bx) (n : Nat) (hn : b.l.length = n) (hl : n ≤ 64) (he : ∀ e ∈ b.l, Eb e) (hd0 : 0 ≤ b.d) (hd1 : b.d ≤ 9223372036854775807) :
    ACt Tryd.prog 32 [.agg [.sl n (ecs b.l), iv .u64 b.d]] [] (Row .u8 5 (bL b)) := by
  obtain ⟨l, d⟩ := b
  simp only at hn he hd0 hd1 ⊢
  have hCl := ecs_len l
  have hdr := ecs_drop l
  rw [hn] at hCl
  obtain ⟨C, hC⟩ : ∃ C, C = ecs l := ⟨_, rfl⟩
  rw [← hC] at hCl hdr ⊢
  obtain ⟨d, rfl⟩ := Int.eq_ofNat_of_zero_le hd0
  have lN := putL_len 0 n (by omega)
  have u0 : IntKind.u64.wrap (n : Int) = (n : Int) := wrap_u64_nat (by omega)
  have cN := refNum_ct n (by omega)
  obtain ⟨Z, hZ⟩ : ∃ Z : Nat → List Int, Z = fun i => putL 0 n ++ eLs (l.take i) := ⟨_, rfl⟩
  have hZ0 : putL 0 n = Z 0 := by rw [hZ]; simp [eLs]
  rw [hZ0] at cN
  have hZl : ∀ i, i ≤ n → (Z i).length ≤ 22000 := fun i hi => by
    have := eLs_len (l.take i) fun e h => he e (List.mem_of_mem_take h)
    rw [hZ]
    simp only [List.length_append]
    rw [List.length_take] at this
    omega
  have hZs : ∀ i (h : i < l.length), Z (i + 1) = Z i ++ kL l[i].k ++ putL 0 l[i].b.toNat ++ putL 0 l[i].n.toNat ++ putL 0 l[i].t.toNat ++ flL l[i].a := fun i h => by
    rw [hZ]
    simp only [List.take_succ_eq_append_getElem h, eLs_app, eLs, eL, List.append_nil, List.append_assoc]
  have hZn : bL ⟨l, (d : Int)⟩ = Z n ++ putL 0 d := by
    rw [hZ]
    unfold bL
    simp only [List.take_of_length_le (Nat.le_of_eq hn), hn, Int.toNat_natCast, List.append_assoc]
  rw [hZn]
  clear hZn hZ hZ0 hC
  have tk : ∀ L : List Int, L.take L.length = L := fun L => List.take_length
  refine ACt.intro Tryd.func32 rfl (by kernel_rfl) (by simp [Tryd.ntmps32]) (fun cx => ?_)
  simp only [argE, Tryd.ntmps32, Tryd.results32]
  first | (have FRx := FR; clear FRx) | have FR := fr0S
  have FA := Sm.mk (And.intro TFOuCB u0)
  repeat' first | (apply Sm.mk; refine Ys ?_) | refine WP.seq fun K hK => ?_ | (apply Ob.mk; exact Yo) | refine And.intro (Ob.out ?_) ?_ | refine Y1OuCB ?_ | refine Yv (c := cN) (r := ?_) | refine Yc (c := cN) (r := ?_) | refine YzOuCB ?_ | (refine WP.cond rfl (fun hc => ?_) (fun hc => ?_) <;> (try simp only [ZC, reduceCtorEq, ZD] at hc) <;> (try exact absurd hc (by decide)) <;> (try (exfalso; omega))) | refine Rt.mk (And.intro (fun hg => Sm.out ?_) fun hg => Sm.out ?_) | (refine Nu.mk ?_; first | (fail_if_success have := nb1); intro nb1 | (fail_if_success have := nb2); intro nb2 | (fail_if_success have := nb3); intro nb3 | (fail_if_success have := nb4); intro nb4 | (fail_if_success have := nb5); intro nb5 | (fail_if_success have := nb6); intro nb6 | (fail_if_success have := nb7); intro nb7 | (fail_if_success have := nb8); intro nb8 | (fail_if_success have := nb9); intro nb9 | (fail_if_success have := nb10); intro nb10 | (fail_if_success have := nb11); intro nb11 | (fail_if_success have := nb12); intro nb12 | (fail_if_success have := nb13); intro nb13 | (fail_if_success have := nb14); intro nb14 | (fail_if_success have := nb15); intro nb15 | (fail_if_success have := nb16); intro nb16 | (fail_if_success have := nb17); intro nb17 | (fail_if_success have := nb18); intro nb18 | (fail_if_success have := nb19); intro nb19 | (fail_if_success have := nb20); intro nb20 | (fail_if_success have := nb21); intro nb21 | (fail_if_success have := nb22); intro nb22 | (fail_if_success have := nb23); intro nb23 | (fail_if_success have := nb24); intro nb24 | (fail_if_success have := nb25); intro nb25 | (fail_if_success have := nb26); intro nb26 | (fail_if_success have := nb27); intro nb27 | (fail_if_success have := nb28); intro nb28 | (fail_if_success have := nb29); intro nb29 | (fail_if_success have := nb30); intro nb30 | intro nbz) | (apply Yfr; refine Yf FR fun hFRb FR => ?_) | refine Two.mk ?_ ?_ | (apply Yxc; exact Yx) | refine Cs.mk fun hcs => Sm.out ?_ | go_step | omega | (simp only [maxLen_eq]; omega) | exact trivial | refine Or.inr (Rt.mk (And.intro (fun hg => Sm.out ?_) fun hg => Sm.out ?_))
  have hne := FR.out
  have hb23 : (Z 0).length ≤ nb3 ∧ nb3 ≤ 9223372036854775807 := hFRb
  have d21 : nb2 ≠ nb1 ∧ nb1 ≠ nb2 := by simp [FR.out]
  refine WP.loop (Γ := PuG) (fun g => ⟨[(4, iv .i64 (g.i : Int)), (3, ms g.x 0 (Z g.i).length g.c), (1, pt nb1 0)], [(g.x, .zs .u8 (Z g.i) g.c 5), (nb1, .cells [.sl n C, iv .u64 (d : Int)] 2 27)]⟩) (fun g => g.i ≤ n ∧ (Z g.i).length ≤ g.c ∧ g.c ≤ 9223372036854775807 ∧ (g.x ≠ nb1 ∧ nb1 ≠ g.x)) (fun g => n - g.i) ⟨0, nb2, nb3⟩ ⟨Nat.zero_le _, hb23.1, hb23.2, d21⟩ (Sub.pick (by simp [pickB, hget, hdel, FR.out, hne]) (by simp [look, hne])) ?_
  clear d21 hb23 hne cN
  intro ⟨i, x, c⟩ ⟨hi, g1, g2, g3⟩
  simp only at hi g1 g2 g3 ⊢
  have FR : Sm (¬ ((1 : Nat) = 0)) := Sm.mk Nat.one_ne_zero
  have hZi := hZl i hi
  by_cases hin : i < n
  · have ki : decide ((i : Int) < (n : Int)) = true := decide_eq_true (by omega)
    have s1 : IntKind.i64.wrap ((i : Int) + 1) = ((i + 1 : Nat) : Int) := by rw [wrap_i64 (by omega) (by omega)]; omega
    have hdd := hdr i (by omega)
    have hZn := hZs i (by omega)
    have hev := he (l[i]'(by omega)) (List.getElem_mem _)
    obtain ⟨v, hv⟩ : ∃ v, v = l[i]'(by omega) := ⟨_, rfl⟩
    rw [← hv] at hdd hZn hev
    have q1 : (i + 1) * 9 ≤ C.length := by omega
    obtain ⟨b0, b1, n0, n1, t0, t1⟩ := And.intro hev.b0 (And.intro hev.b1 (And.intro hev.n0 (And.intro hev.n1 (And.intro hev.t0 hev.t1))))
    have w1 : IntKind.u64.wrap v.b = ((v.b.toNat : Nat) : Int) := by rw [wrap_u64 (by omega) (by omega)]; omega
    have w2 : IntKind.u64.wrap v.n = ((v.n.toNat : Nat) : Int) := by rw [wrap_u64 (by omega) (by omega)]; omega
    have w3 : IntKind.u64.wrap v.t = ((v.t.toNat : Nat) : Int) := by rw [wrap_u64 (by omega) (by omega)]; omega
    have l1 := hev.kl
    have l2 := putL_len 0 v.b.toNat (by omega)
    have l3 := putL_len 0 v.n.toNat (by omega)
    have l4 := putL_len 0 v.t.toNat (by omega)
    have c1 := rkput_ct v.k hev.k
    have c2 := refNum_ct v.b.toNat (by omega)
    have c3 := refNum_ct v.n.toNat (by omega)
    have c4 := refNum_ct v.t.toNat (by omega)
    obtain ⟨D0, hD0⟩ : ∃ D, D = Z i := ⟨_, rfl⟩
    rw [← hD0] at hZn hZi g1 ⊢
    obtain ⟨P1, hP1⟩ : ∃ D, D = kL v.k := ⟨_, rfl⟩
    rw [← hP1] at c1 hZn l1
    obtain ⟨P2, hP2⟩ : ∃ D, D = putL 0 v.b.toNat := ⟨_, rfl⟩
    rw [← hP2] at c2 hZn l2
    obtain ⟨P3, hP3⟩ : ∃ D, D = putL 0 v.n.toNat := ⟨_, rfl⟩
    rw [← hP3] at c3 hZn l3
    obtain ⟨P4, hP4⟩ : ∃ D, D = putL 0 v.t.toNat := ⟨_, rfl⟩
    rw [← hP4] at c4 hZn l4
    obtain ⟨D1, hD1⟩ : ∃ D, D0 ++ P1 = D := ⟨_, rfl⟩
    have m1 : D1.length = D0.length + P1.length := by rw [← hD1, List.length_append]
    obtain ⟨D2, hD2⟩ : ∃ D, D1 ++ P2 = D := ⟨_, rfl⟩
    have m2 : D2.length = D1.length + P2.length := by rw [← hD2, List.length_append]
    obtain ⟨D3, hD3⟩ : ∃ D, D2 ++ P3 = D := ⟨_, rfl⟩
    have m3 : D3.length = D2.length + P3.length := by rw [← hD3, List.length_append]
    obtain ⟨D4, hD4⟩ : ∃ D, D3 ++ P4 = D := ⟨_, rfl⟩
    have m4 : D4.length = D3.length + P4.length := by rw [← hD4, List.length_append]
    rw [hD1, hD2, hD3, hD4] at hZn
    have hf1 : v.a = true → D4 ++ [(1 : Int)] = Z (i + 1) := fun h => by rw [hZn, h]; rfl
    have hf0 : v.a = false → D4 ++ [(0 : Int)] = Z (i + 1) := fun h => by rw [hZn, h]; rfl
    have m5 : (Z (i + 1)).length = D4.length + 1 := by rw [hZn]; simp
    obtain ⟨vb, hvb⟩ : ∃ q, q = v.b.toNat := ⟨_, rfl⟩
    rw [← hvb] at w1 c2
    obtain ⟨vn, hvn⟩ : ∃ q, q = v.n.toNat := ⟨_, rfl⟩
    rw [← hvn] at w2 c3
    obtain ⟨vt, hvt⟩ : ∃ q, q = v.t.toNat := ⟨_, rfl⟩
    rw [← hvt] at w3 c4
    obtain ⟨ZN, hZN⟩ : ∃ q, q = Z (i + 1) := ⟨_, rfl⟩
    rw [← hZN] at hf1 hf0 m5
    clear hD0 hP1 hP2 hP3 hP4 hvb hvn hvt hv hev hZl hZs hdr he hZn
    obtain ⟨⟨vg, vr, vp, ve, vs⟩, eb, en, et, ea⟩ := v
    simp only at hdd w1 w2 w3 c1 hf1 hf0
    cases ea with
    | true =>
      have hf := hf1 rfl
      first | (have FRx := FR; clear FRx) | have FR := fr0S
      have FA := Sm.mk (And.intro TFOuCB (And.intro ki (And.intro hdd (And.intro q1 (And.intro s1 (And.intro w1 (And.intro w2 (And.intro w3 (And.intro g3 (And.intro tk (And.intro hD1 (And.intro hD2 (And.intro hD3 (And.intro hD4 hf))))))))))))))
      repeat' first | (apply Sm.mk; refine YsOuCB0 ?_) | refine WP.seq fun K hK => ?_ | (apply Ob.mk; exact Yo) | refine And.intro (Ob.out ?_) ?_ | refine Y1OuCB ?_ | (refine CallV.row (by simp only [hget, ↓reduceIte, FR.out, ki, hdd, q1, hin, s1, w1, w2, w3, g3, tk, hD1, hD2, hD3, hD4, hf]; first | done | rfl) (c1) (Sm.out ?_)) | refine CallV.mkrow (c1) (Sm.out ?_) | (refine CallV.upd (by simp only [hget, ↓reduceIte, FR.out, ki, hdd, q1, hin, s1, w1, w2, w3, g3, tk, hD1, hD2, hD3, hD4, hf]; first | done | rfl) (c1) (Sm.out ?_)) | refine CallV.mkobj (c1) (Sm.out ?_) | (first | refine CallV.fn (c1) (Sm.out ?_) | refine ExF.mk (c1) (Sm.out ?_) | refine ExG.mk (fun _ => c1) (Sm.out ?_) | refine ExG.mkJ (fun _ => c1) (Sm.out ?_) | refine ExG.mkI (Ob.out ?_) (fun _ => c1) (Sm.out ?_)) | (refine CallV.row (by simp only [hget, ↓reduceIte, FR.out, ki, hdd, q1, hin, s1, w1, w2, w3, g3, tk, hD1, hD2, hD3, hD4, hf]; first | done | rfl) (c2) (Sm.out ?_)) | refine CallV.mkrow (c2) (Sm.out ?_) | (refine CallV.upd (by simp only [hget, ↓reduceIte, FR.out, ki, hdd, q1, hin, s1, w1, w2, w3, g3, tk, hD1, hD2, hD3, hD4, hf]; first | done | rfl) (c2) (Sm.out ?_)) | refine CallV.mkobj (c2) (Sm.out ?_) | (first | refine CallV.fn (c2) (Sm.out ?_) | refine ExF.mk (c2) (Sm.out ?_) | refine ExG.mk (fun _ => c2) (Sm.out ?_) | refine ExG.mkJ (fun _ => c2) (Sm.out ?_) | refine ExG.mkI (Ob.out ?_) (fun _ => c2) (Sm.out ?_)) | (refine CallV.row (by simp only [hget, ↓reduceIte, FR.out, ki, hdd, q1, hin, s1, w1, w2, w3, g3, tk, hD1, hD2, hD3, hD4, hf]; first | done | rfl) (c3) (Sm.out ?_)) | refine CallV.mkrow (c3) (Sm.out ?_) | (refine CallV.upd (by simp only [hget, ↓reduceIte, FR.out, ki, hdd, q1, hin, s1, w1, w2, w3, g3, tk, hD1, hD2, hD3, hD4, hf]; first | done | rfl) (c3) (Sm.out ?_)) | refine CallV.mkobj (c3) (Sm.out ?_) | (first | refine CallV.fn (c3) (Sm.out ?_) | refine ExF.mk (c3) (Sm.out ?_) | refine ExG.mk (fun _ => c3) (Sm.out ?_) | refine ExG.mkJ (fun _ => c3) (Sm.out ?_) | refine ExG.mkI (Ob.out ?_) (fun _ => c3) (Sm.out ?_)) | (refine CallV.row (by simp only [hget, ↓reduceIte, FR.out, ki, hdd, q1, hin, s1, w1, w2, w3, g3, tk, hD1, hD2, hD3, hD4, hf]; first | done | rfl) (c4) (Sm.out ?_)) | refine CallV.mkrow (c4) (Sm.out ?_) | (refine CallV.upd (by simp only [hget, ↓reduceIte, FR.out, ki, hdd, q1, hin, s1, w1, w2, w3, g3, tk, hD1, hD2, hD3, hD4, hf]; first | done | rfl) (c4) (Sm.out ?_)) | refine CallV.mkobj (c4) (Sm.out ?_) | (first | refine CallV.fn (c4) (Sm.out ?_) | refine ExF.mk (c4) (Sm.out ?_) | refine ExG.mk (fun _ => c4) (Sm.out ?_) | refine ExG.mkJ (fun _ => c4) (Sm.out ?_) | refine ExG.mkI (Ob.out ?_) (fun _ => c4) (Sm.out ?_)) | refine YzOuCB ?_ | (refine WP.cond rfl (fun hc => ?_) (fun hc => ?_) <;> (try simp only [ZC, reduceCtorEq, ZD] at hc) <;> (try exact absurd hc (by decide)) <;> (try (exfalso; omega))) | refine Rt.mk (And.intro (fun hg => Sm.out ?_) fun hg => Sm.out ?_) | (refine Nu.mk ?_; first | (fail_if_success have := nb1); intro nb1 | (fail_if_success have := nb2); intro nb2 | (fail_if_success have := nb3); intro nb3 | (fail_if_success have := nb4); intro nb4 | (fail_if_success have := nb5); intro nb5 | (fail_if_success have := nb6); intro nb6 | (fail_if_success have := nb7); intro nb7 | (fail_if_success have := nb8); intro nb8 | (fail_if_success have := nb9); intro nb9 | (fail_if_success have := nb10); intro nb10 | (fail_if_success have := nb11); intro nb11 | (fail_if_success have := nb12); intro nb12 | (fail_if_success have := nb13); intro nb13 | (fail_if_success have := nb14); intro nb14 | (fail_if_success have := nb15); intro nb15 | (fail_if_success have := nb16); intro nb16 | (fail_if_success have := nb17); intro nb17 | (fail_if_success have := nb18); intro nb18 | (fail_if_success have := nb19); intro nb19 | (fail_if_success have := nb20); intro nb20 | (fail_if_success have := nb21); intro nb21 | (fail_if_success have := nb22); intro nb22 | (fail_if_success have := nb23); intro nb23 | (fail_if_success have := nb24); intro nb24 | (fail_if_success have := nb25); intro nb25 | (fail_if_success have := nb26); intro nb26 | (fail_if_success have := nb27); intro nb27 | (fail_if_success have := nb28); intro nb28 | (fail_if_success have := nb29); intro nb29 | (fail_if_success have := nb30); intro nb30 | intro nbz) | (apply Yfr; refine Yf FR fun hFRb FR => ?_) | refine Two.mk ?_ ?_ | (apply Yxc; exact Yx) | refine Cs.mk fun hcs => Sm.out ?_ | go_step | omega | (simp only [maxLen_eq]; omega) | exact trivial | refine Or.inr (Rt.mk (And.intro (fun hg => Sm.out ?_) fun hg => Sm.out ?_))
      have hbb : D4.length + 1 ≤ nb23 ∧ nb23 ≤ 9223372036854775807 := by have := hFRb; omega
      have m8 : D0.length + P1.length + P2.length + P3.length + P4.length = D4.length := by omega
      have m7 : (Z (i + 1)).length = D4.length + 1 := hZN ▸ m5
      exact ⟨⟨i + 1, nb22, nb23⟩, ⟨by simp only; omega, by simp only [m7]; exact hbb.1, hbb.2, by simp [FR.out]⟩, by simp only; omega, (Sub.pick (by simp [pickB, hget, hdel, FR.out, g3, hZN, m7, m8]) (by simp [look, g3, hZN, m7, m8]))⟩
    | false =>
      have hf := hf0 rfl
      first | (have FRx := FR; clear FRx) | have FR := fr0S
      have FA := Sm.mk (And.intro TFOuCB (And.intro ki (And.intro hdd (And.intro q1 (And.intro s1 (And.intro w1 (And.intro w2 (And.intro w3 (And.intro g3 (And.intro tk (And.intro hD1 (And.intro hD2 (And.intro hD3 (And.intro hD4 hf))))))))))))))
      repeat' first | (apply Sm.mk; refine YsOuCB0 ?_) | refine WP.seq fun K hK => ?_ | (apply Ob.mk; exact Yo) | refine And.intro (Ob.out ?_) ?_ | refine Y1OuCB ?_ | (refine CallV.row (by simp only [hget, ↓reduceIte, FR.out, ki, hdd, q1, hin, s1, w1, w2, w3, g3, tk, hD1, hD2, hD3, hD4, hf]; first | done | rfl) (c1) (Sm.out ?_)) | refine CallV.mkrow (c1) (Sm.out ?_) | (refine CallV.upd (by simp only [hget, ↓reduceIte, FR.out, ki, hdd, q1, hin, s1, w1, w2, w3, g3, tk, hD1, hD2, hD3, hD4, hf]; first | done | rfl) (c1) (Sm.out ?_)) | refine CallV.mkobj (c1) (Sm.out ?_) | (first | refine CallV.fn (c1) (Sm.out ?_) | refine ExF.mk (c1) (Sm.out ?_) | refine ExG.mk (fun _ => c1) (Sm.out ?_) | refine ExG.mkJ (fun _ => c1) (Sm.out ?_) | refine ExG.mkI (Ob.out ?_) (fun _ => c1) (Sm.out ?_)) | (refine CallV.row (by simp only [hget, ↓reduceIte, FR.out, ki, hdd, q1, hin, s1, w1, w2, w3, g3, tk, hD1, hD2, hD3, hD4, hf]; first | done | rfl) (c2) (Sm.out ?_)) | refine CallV.mkrow (c2) (Sm.out ?_) | (refine CallV.upd (by simp only [hget, ↓reduceIte, FR.out, ki, hdd, q1, hin, s1, w1, w2, w3, g3, tk, hD1, hD2, hD3, hD4, hf]; first | done | rfl) (c2) (Sm.out ?_)) | refine CallV.mkobj (c2) (Sm.out ?_) | (first | refine CallV.fn (c2) (Sm.out ?_) | refine ExF.mk (c2) (Sm.out ?_) | refine ExG.mk (fun _ => c2) (Sm.out ?_) | refine ExG.mkJ (fun _ => c2) (Sm.out ?_) | refine ExG.mkI (Ob.out ?_) (fun _ => c2) (Sm.out ?_)) | (refine CallV.row (by simp only [hget, ↓reduceIte, FR.out, ki, hdd, q1, hin, s1, w1, w2, w3, g3, tk, hD1, hD2, hD3, hD4, hf]; first | done | rfl) (c3) (Sm.out ?_)) | refine CallV.mkrow (c3) (Sm.out ?_) | (refine CallV.upd (by simp only [hget, ↓reduceIte, FR.out, ki, hdd, q1, hin, s1, w1, w2, w3, g3, tk, hD1, hD2, hD3, hD4, hf]; first | done | rfl) (c3) (Sm.out ?_)) | refine CallV.mkobj (c3) (Sm.out ?_) | (first | refine CallV.fn (c3) (Sm.out ?_) | refine ExF.mk (c3) (Sm.out ?_) | refine ExG.mk (fun _ => c3) (Sm.out ?_) | refine ExG.mkJ (fun _ => c3) (Sm.out ?_) | refine ExG.mkI (Ob.out ?_) (fun _ => c3) (Sm.out ?_)) | (refine CallV.row (by simp only [hget, ↓reduceIte, FR.out, ki, hdd, q1, hin, s1, w1, w2, w3, g3, tk, hD1, hD2, hD3, hD4, hf]; first | done | rfl) (c4) (Sm.out ?_)) | refine CallV.mkrow (c4) (Sm.out ?_) | (refine CallV.upd (by simp only [hget, ↓reduceIte, FR.out, ki, hdd, q1, hin, s1, w1, w2, w3, g3, tk, hD1, hD2, hD3, hD4, hf]; first | done | rfl) (c4) (Sm.out ?_)) | refine CallV.mkobj (c4) (Sm.out ?_) | (first | refine CallV.fn (c4) (Sm.out ?_) | refine ExF.mk (c4) (Sm.out ?_) | refine ExG.mk (fun _ => c4) (Sm.out ?_) | refine ExG.mkJ (fun _ => c4) (Sm.out ?_) | refine ExG.mkI (Ob.out ?_) (fun _ => c4) (Sm.out ?_)) | refine YzOuCB ?_ | (refine WP.cond rfl (fun hc => ?_) (fun hc => ?_) <;> (try simp only [ZC, reduceCtorEq, ZD] at hc) <;> (try exact absurd hc (by decide)) <;> (try (exfalso; omega))) | refine Rt.mk (And.intro (fun hg => Sm.out ?_) fun hg => Sm.out ?_) | (refine Nu.mk ?_; first | (fail_if_success have := nb1); intro nb1 | (fail_if_success have := nb2); intro nb2 | (fail_if_success have := nb3); intro nb3 | (fail_if_success have := nb4); intro nb4 | (fail_if_success have := nb5); intro nb5 | (fail_if_success have := nb6); intro nb6 | (fail_if_success have := nb7); intro nb7 | (fail_if_success have := nb8); intro nb8 | (fail_if_success have := nb9); intro nb9 | (fail_if_success have := nb10); intro nb10 | (fail_if_success have := nb11); intro nb11 | (fail_if_success have := nb12); intro nb12 | (fail_if_success have := nb13); intro nb13 | (fail_if_success have := nb14); intro nb14 | (fail_if_success have := nb15); intro nb15 | (fail_if_success have := nb16); intro nb16 | (fail_if_success have := nb17); intro nb17 | (fail_if_success have := nb18); intro nb18 | (fail_if_success have := nb19); intro nb19 | (fail_if_success have := nb20); intro nb20 | (fail_if_success have := nb21); intro nb21 | (fail_if_success have := nb22); intro nb22 | (fail_if_success have := nb23); intro nb23 | (fail_if_success have := nb24); intro nb24 | (fail_if_success have := nb25); intro nb25 | (fail_if_success have := nb26); intro nb26 | (fail_if_success have := nb27); intro nb27 | (fail_if_success have := nb28); intro nb28 | (fail_if_success have := nb29); intro nb29 | (fail_if_success have := nb30); intro nb30 | intro nbz) | (apply Yfr; refine Yf FR fun hFRb FR => ?_) | refine Two.mk ?_ ?_ | (apply Yxc; exact Yx) | refine Cs.mk fun hcs => Sm.out ?_ | go_step | omega | (simp only [maxLen_eq]; omega) | exact trivial | refine Or.inr (Rt.mk (And.intro (fun hg => Sm.out ?_) fun hg => Sm.out ?_))
      have hbb : D4.length + 1 ≤ nb23 ∧ nb23 ≤ 9223372036854775807 := by have := hFRb; omega
      have m8 : D0.length + P1.length + P2.length + P3.length + P4.length = D4.length := by omega
      have m7 : (Z (i + 1)).length = D4.length + 1 := hZN ▸ m5
      exact ⟨⟨i + 1, nb22, nb23⟩, ⟨by simp only; omega, by simp only [m7]; exact hbb.1, hbb.2, by simp [FR.out]⟩, by simp only; omega, (Sub.pick (by simp [pickB, hget, hdel, FR.out, g3, hZN, m7, m8]) (by simp [look, g3, hZN, m7, m8]))⟩
  · have ki : decide ((i : Int) < (n : Int)) = false := decide_eq_false (by omega)
    obtain rfl : i = n := by omega
    have cE := refNum_ct d (by omega)
    have l5 := putL_len 0 d (by omega)
    obtain ⟨D0, hD0⟩ : ∃ D, D = Z i := ⟨_, rfl⟩
    rw [← hD0] at hZi g1 ⊢
    obtain ⟨P5, hP5⟩ : ∃ D, D = putL 0 d := ⟨_, rfl⟩
    rw [← hP5] at cE l5 ⊢
    obtain ⟨D6, hD6⟩ : ∃ D, D0 ++ P5 = D := ⟨_, rfl⟩
    have m6 : D6.length = D0.length + P5.length := by rw [← hD6, List.length_append]
    rw [hD6]
    clear hZl hZs hdr he
    first | (have FRx := FR; clear FRx) | have FR := fr0S
    have FA := Sm.mk (And.intro TFOuCB (And.intro ki (And.intro g3 (And.intro tk hD6))))
    repeat' first | (apply Sm.mk; refine Ys ?_) | refine WP.seq fun K hK => ?_ | (apply Ob.mk; exact Yo) | refine And.intro (Ob.out ?_) ?_ | refine Y1OuCB ?_ | refine Yv (c := cE) (r := ?_) | refine Yc (c := cE) (r := ?_) | refine YzOuCB ?_ | (refine WP.cond rfl (fun hc => ?_) (fun hc => ?_) <;> (try simp only [ZC, reduceCtorEq, ZD] at hc) <;> (try exact absurd hc (by decide)) <;> (try (exfalso; omega))) | refine Rt.mk (And.intro (fun hg => Sm.out ?_) fun hg => Sm.out ?_) | (refine Nu.mk ?_; first | (fail_if_success have := nb1); intro nb1 | (fail_if_success have := nb2); intro nb2 | (fail_if_success have := nb3); intro nb3 | (fail_if_success have := nb4); intro nb4 | (fail_if_success have := nb5); intro nb5 | (fail_if_success have := nb6); intro nb6 | (fail_if_success have := nb7); intro nb7 | (fail_if_success have := nb8); intro nb8 | (fail_if_success have := nb9); intro nb9 | (fail_if_success have := nb10); intro nb10 | (fail_if_success have := nb11); intro nb11 | (fail_if_success have := nb12); intro nb12 | (fail_if_success have := nb13); intro nb13 | (fail_if_success have := nb14); intro nb14 | (fail_if_success have := nb15); intro nb15 | (fail_if_success have := nb16); intro nb16 | (fail_if_success have := nb17); intro nb17 | (fail_if_success have := nb18); intro nb18 | (fail_if_success have := nb19); intro nb19 | (fail_if_success have := nb20); intro nb20 | (fail_if_success have := nb21); intro nb21 | (fail_if_success have := nb22); intro nb22 | (fail_if_success have := nb23); intro nb23 | (fail_if_success have := nb24); intro nb24 | (fail_if_success have := nb25); intro nb25 | (fail_if_success have := nb26); intro nb26 | (fail_if_success have := nb27); intro nb27 | (fail_if_success have := nb28); intro nb28 | (fail_if_success have := nb29); intro nb29 | (fail_if_success have := nb30); intro nb30 | intro nbz) | (apply Yfr; refine Yf FR fun hFRb FR => ?_) | refine Two.mk ?_ ?_ | (apply Yxc; exact Yx) | refine Cs.mk fun hcs => Sm.out ?_ | go_step | omega | (simp only [maxLen_eq]; omega) | exact trivial | refine Or.inr (Rt.mk (And.intro (fun hg => Sm.out ?_) fun hg => Sm.out ?_))
    (refine OutQ.row (by simp only [resv, ZK, look, loadv, loadn, loadnm, load1, load1m, hget, ↓reduceIte, Nat.reduceEqDiff, Nat.reduceAdd, Nat.reduceMul, Nat.reduceLeDiff, Nat.reduceLT, reduceCtorEq, TFOuCB, FR.out]) (by simp only [resv, resA, ZK, look, loadv, loadn, loadnm, load1, load1m, hget, ↓reduceIte, Nat.reduceEqDiff, Nat.reduceAdd, Nat.reduceMul, Nat.reduceLeDiff, Nat.reduceLT, reduceCtorEq, TFOuCB, FR.out]; first | done | rfl) (by simp only [hget, ↓reduceIte, if_true, if_false, FR.out]; first | done | rfl) ?_ ?_ ?_ ?_ <;> first | omega | (simp only [maxLen_eq]; omega) | skip)
    · rw [← hD6, hD0, hP5]
    · rw [List.length_append, hD0, hP5]
end Go.Proofs.YtfknbndmabogjaaDoor
