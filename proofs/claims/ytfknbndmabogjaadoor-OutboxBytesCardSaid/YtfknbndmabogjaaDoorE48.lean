/-
  The walks and the laws that the statement leans on, part 48.
-/
import Derived.Test.YtfknbndmabogjaaDoorE10
import Derived.Test.YtfknbndmabogjaaDoorE30
import Derived.Test.YtfknbndmabogjaaDoorE47
namespace Go.Proofs.YtfknbndmabogjaaDoor
open Go Wi
set_option linter.unusedVariables false
set_option linter.unusedSimpArgs false
set_option linter.defProp false
def TFOuCA :=
  And.intro (And.intro (And.intro (And.intro (And.intro (And.intro tyc0 tyc2) (And.intro zmb2 tyc3)) (And.intro (And.intro zmb3 tyc4) (And.intro zmb4 tyc5))) (And.intro (And.intro (And.intro zmb5 tyc24) (And.intro elt24 mkz24)) (And.intro (And.intro mkc24 apT24) (And.intro elk24 (And.intro zmb24 tyc25))))) (And.intro (And.intro (And.intro (And.intro zmb25 tyc27) (And.intro foff27_0 fpart27_0)) (And.intro (And.intro foff27_1 fpart27_1) (And.intro zmb27 bldT27))) (And.intro (And.intro (And.intro tyc29 foff29_0) (And.intro fpart29_0 foff29_1)) (And.intro (And.intro fpart29_1 foff29_2) (And.intro fpart29_2 (And.intro foff29_3 fpart29_3)))))) (And.intro (And.intro (And.intro (And.intro (And.intro foff29_4 fpart29_4) (And.intro fe29 zmb29)) (And.intro (And.intro bldT29 tyc38) (And.intro foff38_0 fpart38_0))) (And.intro (And.intro (And.intro foff38_1 fpart38_1) (And.intro foff38_2 fpart38_2)) (And.intro (And.intro foff38_3 fpart38_3) (And.intro foff38_4 (And.intro fpart38_4 zmb38))))) (And.intro (And.intro (And.intro (And.intro bldT38 tyc53) (And.intro elt53 mkz53)) (And.intro (And.intro apT53 elk53) (And.intro zmb53 (And.intro Tryd.underlying0 Tryd.underlying2)))) (And.intro (And.intro (And.intro Tryd.underlying3 Tryd.underlying4) (And.intro Tryd.underlying5 Tryd.underlying24)) (And.intro (And.intro Tryd.underlying25 Tryd.underlying27) (And.intro Tryd.underlying29 (And.intro Tryd.underlying38 Tryd.underlying53))))))
theorem Y1OuCA {G R : Prop} (r : R) (h : R → G := by intro r; first | (apply WP.region; exact rvc_sound _ _ (Sm.out r)) | exact WP.drawN (cs := [3,7,11]) (k := 12) (bs := [x]) mixed (by decide +kernel) (by decide +kernel) (by decide +kernel) (by decide +kernel) (Sm.out r) | exact WP.drawN (cs := [4,7]) (k := 8) (bs := [nb9]) mixed (by decide +kernel) (by decide +kernel) (by decide +kernel) (by decide +kernel) (Sm.out r) | exact WP.drawK rfl mixed (by decide +kernel) (Sm.out r) | (apply WP.block; exact r) | (apply WP.skip; exact Yq r) | (apply WP.exit; exact Yq r) | (apply WP.ret; exact Sm.out r) | exact WP.cond rfl (fun _ => r) (fun hg => absurd hg (by decide)) | exact WP.cond rfl (fun hg => absurd hg (by decide)) (fun _ => r) | exact Rt.mk (And.intro (fun _ => Sm.out r) fun hg => absurd hg (by decide)) | exact Rt.mk (And.intro (fun hg => absurd hg (by decide)) fun _ => Sm.out r)) : G := h r
theorem YzOuCA {G R : Prop} (r : R) (h : R → G := by intro r; first | (apply ExG.no; exact Sm.out r) | (apply Or.inl; apply ExG.no; exact Sm.out r) | exact Or.inl (And.intro (fun hg => absurd hg (by decide)) (ExG.no (Sm.out r)))) : G := h r
theorem YsOuCA0 {P Q : Prop} (q : Q) (h : P = Q := by (try (conv => lhs; simp -dsimp only [ZK, rvc, capA, appA, litL, mkfv, drawF, headN, pureH, stp, dvc, calleeOf, gcall, pev, eff, newB, okd, og, ogs, ogo, ogp, slv, bltv, opd, litv, strip, one, both, putE, St.put, look, gdOf, gdv, picka, pickv, pickw, binv, bini, bins, binb, binp, binq, isSlT, bina, shp, eqCells, unv, convv, nilv, faddv, addp, idxav, idxp, load1, load1m, loadn, loadnm, loadv, hget, hset, hrep, hdel, slicev, slice3v, bnd, shift1, lenv, capv, IntKind.bits, extractv, fieldv, indexv, min2v, max2v, mkiv, tasv, tasz, cellsA, fillA, buildv, stC, oneC, rowMB, intsA, plN, appE, appZ, appC, appS, srcB, appNZ, appNC, VwL, srcC, srcZ, srcM, isBoolT, isPtrT, isSliceT, uOk, Value.oneCell', Nat.reducePow, Int.reducePow, Nat.reduceAdd, Nat.reduceMul, Nat.reduceSub, Nat.reduceLT, Nat.reduceLeDiff, Nat.reduceEqDiff, Nat.reduceBEq, Nat.reduceDiv, Nat.reduceMod, ↓reduceIte, reduceCtorEq, Int.reduceToNat, Int.reduceLT, Int.reduceLE, drawNF, drawNF1, drawNTF, nvc, xst, chF, chS, splA, mkV, splitH, calleeV, putE, hdel, TFOuCA, SeqQ, BlkQ, LoopQ, BodyQ, hin, FA.out, FR.out])) <;> exact rfl) : P := h.mpr q
def eL (e : En) : List Int := kL e.k ++ (putL 0 e.b.toNat ++ (putL 0 e.n.toNat ++ (putL 0 e.t.toNat ++ flL e.a)))
def eLs : List En → List Int
  | [] => []
  | e :: l => eL e ++ eLs l
def bL (b : Bx) : List Int := putL 0 b.l.length ++ (eLs b.l ++ putL 0 b.d.toNat)
theorem eLs_app (l m : List En) : eLs (l ++ m) = eLs l ++ eLs m := by
  induction l with
  | nil => rfl
  | cons e r ih => simp only [List.cons_append, eLs, ih, List.append_assoc]
structure Eb (e : En) : Prop where
  k : Kb e.k
  kl : (kL e.k).length ≤ 300
  b0 : 0 ≤ e.b
  b1 : e.b ≤ 9223372036854775807
  n0 : 0 ≤ e.n
  n1 : e.n ≤ 9223372036854775807
  t0 : 0 ≤ e.t
  t1 : e.t ≤ 9223372036854775807
theorem eL_len (e : En) (h : Eb e) : (eL e).length ≤ 330 := by
  have := h.kl
  have := putL_len 0 e.b.toNat (by have := h.b1; omega)
  have := putL_len 0 e.n.toNat (by have := h.n1; omega)
  have := putL_len 0 e.t.toNat (by have := h.t1; omega)
  unfold eL
  simp only [List.length_append, List.length_cons, List.length_nil]
  omega
theorem eLs_len (l : List En) (h : ∀ e ∈ l, Eb e) : (eLs l).length ≤ 330 * l.length := by
  induction l with
  | nil => simp [eLs]
  | cons e r ih =>
    have := eL_len e (h e (List.mem_cons_self ..))
    have := ih fun x hx => h x (List.mem_cons_of_mem _ hx)
    simp only [eLs, List.length_append, List.length_cons]
    omega
theorem er_eb {e : En} (h : erB e = true) : Eb e := by
  unfold erB tkB at h
  simp only [Bool.and_eq_true, decide_eq_true_eq] at h
  obtain ⟨h1, h2, h3, h4⟩ := kr_bd h.1.1.1.1.1
  have hk : Kb e.k := ⟨⟨by omega, by omega⟩, by omega, by omega⟩
  have hl : (kL e.k).length ≤ 300 := by
    have := txL_len e.k.g (by omega)
    have := txL_len e.k.r (by omega)
    have := putL_len 0 e.k.e.toNat (by omega)
    unfold kL
    simp only [List.length_append, List.length_cons, List.length_nil]
    omega
  exact ⟨hk, hl, by omega, by omega, by omega, by omega, by omega, by omega⟩
structure PuG where
  i : Nat
  x : Nat
  c : Nat
set_option maxHeartbeats 8000000 in
set_option maxRecDepth 8000 in
theorem bput_ct (b0 cap0 : Nat) (zs : List Int) (b : Bx) (n : Nat) (hn : b.l.length = n) (hl : n ≤ 64) (he : ∀ e ∈ b.l, Eb e) (hd0 : 0 ≤ b.d) (hd1 : b.d ≤ 9223372036854775807) (hz : zs.length ≤ 100) (h1 : zs.length ≤ cap0) (h2 : cap0 ≤ 9223372036854775807) :
    ACt Tryd.prog 29 [ms b0 0 zs.length cap0, .agg [.sl n (ecs b.l), iv .u64 b.d]] [(b0, .zs .u8 zs cap0 5)] (Row .u8 5 (zs ++ bL b)) := by
  obtain ⟨l, d⟩ := b
  simp only at hn he hd0 hd1 ⊢
  have hCl := ecs_len l
  have hdr := ecs_drop l
  rw [hn] at hCl
  obtain ⟨C, hC⟩ : ∃ C, C = ecs l := ⟨_, rfl⟩
  rw [← hC] at hCl hdr ⊢
  obtain ⟨d, rfl⟩ := Int.eq_ofNat_of_zero_le hd0
  have lN := putL_len 0 n (by omega)
  have u0 : IntKind.u64.wrap (n : Int) = (n : Int) := wrap_u64_nat (by omega)
  have cN := num_ct b0 cap0 zs n (by omega) h1 h2 (by omega)
  obtain ⟨Z, hZ⟩ : ∃ Z : Nat → List Int, Z = fun i => zs ++ putL 0 n ++ eLs (l.take i) := ⟨_, rfl⟩
  have hZ0 : zs ++ putL 0 n = Z 0 := by rw [hZ]; simp [eLs]
  rw [hZ0] at cN
  have hZl : ∀ i, i ≤ n → (Z i).length ≤ 22000 := fun i hi => by
    have := eLs_len (l.take i) fun e h => he e (List.mem_of_mem_take h)
    rw [hZ]
    simp only [List.length_append]
    rw [List.length_take] at this
    omega
  have hZs : ∀ i (h : i < l.length), Z (i + 1) = Z i ++ kL l[i].k ++ putL 0 l[i].b.toNat ++ putL 0 l[i].n.toNat ++ putL 0 l[i].t.toNat ++ flL l[i].a := fun i h => by
    rw [hZ]
    simp only [List.take_succ_eq_append_getElem h, eLs_app, eLs, eL, List.append_nil, List.append_assoc]
  have hZn : zs ++ bL ⟨l, (d : Int)⟩ = Z n ++ putL 0 d := by
    rw [hZ]
    unfold bL
    simp only [List.take_of_length_le (Nat.le_of_eq hn), hn, Int.toNat_natCast, List.append_assoc]
  rw [hZn]
  clear hZn hZ hZ0 hC
  have hZ0l := hZl 0 (by omega)
  refine ACt.intro Tryd.func29 rfl (by kernel_rfl) (by simp [Tryd.ntmps29]) (fun cx => ?_)
  simp only [argE, Tryd.ntmps29, Tryd.results29]
  first | (have FRx := FR; clear FRx) | have FR := fr0S
  have FA := Sm.mk (And.intro TFOuCA u0)
  repeat' first | (apply Sm.mk; refine Ys ?_) | refine WP.seq fun K hK => ?_ | (apply Ob.mk; exact Yo) | refine And.intro (Ob.out ?_) ?_ | refine Y1OuCA ?_ | (refine WCt.row (by simp only [hget, ↓reduceIte, FR.out, u0]; first | done | rfl) (cN) (Sm.out ?_)) | (refine WCt.mkrow (cN) (Sm.out ?_)) | (refine CallV.row (by simp only [hget, ↓reduceIte, FR.out, u0]; first | done | rfl) (cN) (Sm.out ?_)) | refine CallV.mkrow (cN) (Sm.out ?_) | (refine CallV.upd (by simp only [hget, ↓reduceIte, FR.out, u0]; first | done | rfl) (cN) (Sm.out ?_)) | refine CallV.mkobj (cN) (Sm.out ?_) | (first | refine CallV.fn (cN) (Sm.out ?_) | refine ExF.mk (cN) (Sm.out ?_) | refine ExG.mk (fun _ => cN) (Sm.out ?_) | refine ExG.mkJ (fun _ => cN) (Sm.out ?_) | refine ExG.mkI (Ob.out ?_) (fun _ => cN) (Sm.out ?_)) | refine YzOuCA ?_ | (refine WP.cond rfl (fun hc => ?_) (fun hc => ?_) <;> (try simp only [ZC, reduceCtorEq, ZD] at hc) <;> (try exact absurd hc (by decide)) <;> (try (exfalso; omega))) | refine Rt.mk (And.intro (fun hg => Sm.out ?_) fun hg => Sm.out ?_) | (refine Nu.mk ?_; first | (fail_if_success have := nb1); intro nb1 | (fail_if_success have := nb2); intro nb2 | (fail_if_success have := nb3); intro nb3 | (fail_if_success have := nb4); intro nb4 | (fail_if_success have := nb5); intro nb5 | (fail_if_success have := nb6); intro nb6 | (fail_if_success have := nb7); intro nb7 | (fail_if_success have := nb8); intro nb8 | (fail_if_success have := nb9); intro nb9 | (fail_if_success have := nb10); intro nb10 | (fail_if_success have := nb11); intro nb11 | (fail_if_success have := nb12); intro nb12 | (fail_if_success have := nb13); intro nb13 | (fail_if_success have := nb14); intro nb14 | (fail_if_success have := nb15); intro nb15 | (fail_if_success have := nb16); intro nb16 | (fail_if_success have := nb17); intro nb17 | (fail_if_success have := nb18); intro nb18 | intro nbz) | (apply Yfr; refine Yf FR fun hFRb FR => ?_) | refine Two.mk ?_ ?_ | (apply Yxc; exact Yx) | refine Cs.mk fun hcs => Sm.out ?_ | go_step | omega | (simp only [maxLen_eq]; omega) | exact trivial | refine Or.inr (Rt.mk (And.intro (fun hg => Sm.out ?_) fun hg => Sm.out ?_))
  have hne := FR.out
  have hb23 : (Z 0).length ≤ nb3 ∧ nb3 ≤ 9223372036854775807 := by first | exact hFRb | exact ⟨FR.out.1.1, FR.out.1.2⟩ | omega
  have d21 : nb2 ≠ nb1 ∧ nb1 ≠ nb2 := by simp [FR.out]
  refine WP.loop (Γ := PuG) (fun g => ⟨[(16, iv .i64 (g.i : Int)), (15, iv .i64 (n : Int)), (14, .sl n C), (3, pt nb1 0), (0, ms g.x 0 (Z g.i).length g.c)], [(g.x, .zs .u8 (Z g.i) g.c 5), (nb1, .cells [.sl n C, iv .u64 (d : Int)] 2 27)]⟩) (fun g => g.i ≤ n ∧ (Z g.i).length ≤ g.c ∧ g.c ≤ 9223372036854775807 ∧ (g.x ≠ nb1 ∧ nb1 ≠ g.x)) (fun g => n - g.i) ⟨0, nb2, nb3⟩ ⟨Nat.zero_le _, hb23.1, hb23.2, d21⟩ (Sub.pick (by simp [pickB, hget, hdel, FR.out, hne]) (by simp [look, hne])) ?_
  clear d21 hb23 hne cN
  intro ⟨i, x, c⟩ ⟨hi, g1, g2, g3⟩
  simp only at hi g1 g2 g3 ⊢
  have FR : Sm (¬ ((1 : Nat) = 0)) := Sm.mk Nat.one_ne_zero
  have hZi := hZl i hi
  by_cases hin : i < n
  · have ki : decide ((i : Int) < (n : Int)) = true := decide_eq_true (by omega)
    have s1 : IntKind.i64.wrap ((i : Int) + 1) = ((i + 1 : Nat) : Int) := by rw [wrap_i64 (by omega) (by omega)]; omega
    have hdd := hdr i (by omega)
    have hZn := hZs i (by omega)
    have hev := he (l[i]'(by omega)) (List.getElem_mem _)
    obtain ⟨v, hv⟩ : ∃ v, v = l[i]'(by omega) := ⟨_, rfl⟩
    rw [← hv] at hdd hZn hev
    have q1 : (i + 1) * 9 ≤ C.length := by omega
    obtain ⟨b0, b1, n0, n1, t0, t1⟩ := And.intro hev.b0 (And.intro hev.b1 (And.intro hev.n0 (And.intro hev.n1 (And.intro hev.t0 hev.t1))))
    have w1 : IntKind.u64.wrap v.b = ((v.b.toNat : Nat) : Int) := by rw [wrap_u64 (by omega) (by omega)]; omega
    have w2 : IntKind.u64.wrap v.n = ((v.n.toNat : Nat) : Int) := by rw [wrap_u64 (by omega) (by omega)]; omega
    have w3 : IntKind.u64.wrap v.t = ((v.t.toNat : Nat) : Int) := by rw [wrap_u64 (by omega) (by omega)]; omega
    have l1 := hev.kl
    have l2 := putL_len 0 v.b.toNat (by omega)
    have l3 := putL_len 0 v.n.toNat (by omega)
    have l4 := putL_len 0 v.t.toNat (by omega)
    have c1 := kput_ct x c (Z i) v.k hev.k (by omega) g1 g2
    have c2 := fun b' cap' h h' => num_ct b' cap' (Z i ++ kL v.k) v.b.toNat (by simp only [List.length_append]; omega) h h' (by omega)
    have c3 := fun b' cap' h h' => num_ct b' cap' (Z i ++ kL v.k ++ putL 0 v.b.toNat) v.n.toNat (by simp only [List.length_append]; omega) h h' (by omega)
    have c4 := fun b' cap' h h' => num_ct b' cap' (Z i ++ kL v.k ++ putL 0 v.b.toNat ++ putL 0 v.n.toNat) v.t.toNat (by simp only [List.length_append]; omega) h h' (by omega)
    have c5 := fun b' cap' h h' => flag_ct b' cap' (Z i ++ kL v.k ++ putL 0 v.b.toNat ++ putL 0 v.n.toNat ++ putL 0 v.t.toNat) v.a (by simp only [List.length_append]; omega) h h'
    obtain ⟨D0, hD0⟩ : ∃ D, D = Z i := ⟨_, rfl⟩
    rw [← hD0] at c1 c2 c3 c4 c5 hZn hZi g1 ⊢
    obtain ⟨D1, hD1⟩ : ∃ D, D = D0 ++ kL v.k := ⟨_, rfl⟩
    rw [← hD1] at c1 c2 c3 c4 c5 hZn
    obtain ⟨D2, hD2⟩ : ∃ D, D = D1 ++ putL 0 v.b.toNat := ⟨_, rfl⟩
    rw [← hD2] at c2 c3 c4 c5 hZn
    obtain ⟨D3, hD3⟩ : ∃ D, D = D2 ++ putL 0 v.n.toNat := ⟨_, rfl⟩
    rw [← hD3] at c3 c4 c5 hZn
    obtain ⟨D4, hD4⟩ : ∃ D, D = D3 ++ putL 0 v.t.toNat := ⟨_, rfl⟩
    rw [← hD4] at c4 c5 hZn
    have hfl : flL v.a = [if v.a then 1 else 0] := rfl
    rw [← hfl] at c5
    obtain ⟨D5, hD5⟩ : ∃ D, D = D4 ++ flL v.a := ⟨_, rfl⟩
    rw [← hD5] at c5 hZn
    obtain ⟨vb, hvb⟩ : ∃ q, q = v.b.toNat := ⟨_, rfl⟩
    rw [← hvb] at w1 c2
    obtain ⟨vn, hvn⟩ : ∃ q, q = v.n.toNat := ⟨_, rfl⟩
    rw [← hvn] at w2 c3
    obtain ⟨vt, hvt⟩ : ∃ q, q = v.t.toNat := ⟨_, rfl⟩
    rw [← hvt] at w3 c4
    clear hD0 hD1 hD2 hD3 hD4 hD5 hfl hvb hvn hvt hv hev l1 l2 l3 l4 hZl hZs hdr he
    obtain ⟨⟨vg, vr, vp, ve, vs⟩, eb, en, et, ea⟩ := v
    simp only at hdd w1 w2 w3 c1 c5
    first | (have FRx := FR; clear FRx) | have FR := fr0S
    have FA := Sm.mk (And.intro TFOuCA (And.intro ki (And.intro hdd (And.intro q1 (And.intro s1 (And.intro w1 (And.intro w2 (And.intro w3 g3))))))))
    repeat' first | (apply Sm.mk; refine YsOuCA0 ?_) | refine WP.seq fun K hK => ?_ | (apply Ob.mk; exact Yo) | refine And.intro (Ob.out ?_) ?_ | refine Y1OuCA ?_ | (refine WCt.row (by simp only [hget, ↓reduceIte, FR.out, ki, hdd, q1, hin, s1, w1, w2, w3, g3]; first | done | rfl) (c1) (Sm.out ?_)) | (refine WCt.mkrow (c1) (Sm.out ?_)) | (refine CallV.row (by simp only [hget, ↓reduceIte, FR.out, ki, hdd, q1, hin, s1, w1, w2, w3, g3]; first | done | rfl) (c1) (Sm.out ?_)) | refine CallV.mkrow (c1) (Sm.out ?_) | (refine CallV.upd (by simp only [hget, ↓reduceIte, FR.out, ki, hdd, q1, hin, s1, w1, w2, w3, g3]; first | done | rfl) (c1) (Sm.out ?_)) | refine CallV.mkobj (c1) (Sm.out ?_) | (first | refine CallV.fn (c1) (Sm.out ?_) | refine ExF.mk (c1) (Sm.out ?_) | refine ExG.mk (fun _ => c1) (Sm.out ?_) | refine ExG.mkJ (fun _ => c1) (Sm.out ?_) | refine ExG.mkI (Ob.out ?_) (fun _ => c1) (Sm.out ?_)) | (refine WCt.row (by simp only [hget, ↓reduceIte, FR.out, ki, hdd, q1, hin, s1, w1, w2, w3, g3]; first | done | rfl) (c2 nb5 nb6 (by omega) (by omega)) (Sm.out ?_)) | (refine WCt.mkrow (c2 nb5 nb6 (by omega) (by omega)) (Sm.out ?_)) | (refine CallV.row (by simp only [hget, ↓reduceIte, FR.out, ki, hdd, q1, hin, s1, w1, w2, w3, g3]; first | done | rfl) (c2 nb5 nb6 (by omega) (by omega)) (Sm.out ?_)) | refine CallV.mkrow (c2 nb5 nb6 (by omega) (by omega)) (Sm.out ?_) | (refine CallV.upd (by simp only [hget, ↓reduceIte, FR.out, ki, hdd, q1, hin, s1, w1, w2, w3, g3]; first | done | rfl) (c2 nb5 nb6 (by omega) (by omega)) (Sm.out ?_)) | refine CallV.mkobj (c2 nb5 nb6 (by omega) (by omega)) (Sm.out ?_) | (first | refine CallV.fn (c2 nb5 nb6 (by omega) (by omega)) (Sm.out ?_) | refine ExF.mk (c2 nb5 nb6 (by omega) (by omega)) (Sm.out ?_) | refine ExG.mk (fun _ => c2 nb5 nb6 (by omega) (by omega)) (Sm.out ?_) | refine ExG.mkJ (fun _ => c2 nb5 nb6 (by omega) (by omega)) (Sm.out ?_) | refine ExG.mkI (Ob.out ?_) (fun _ => c2 nb5 nb6 (by omega) (by omega)) (Sm.out ?_)) | (refine WCt.row (by simp only [hget, ↓reduceIte, FR.out, ki, hdd, q1, hin, s1, w1, w2, w3, g3]; first | done | rfl) (c3 nb7 nb8 (by omega) (by omega)) (Sm.out ?_)) | (refine WCt.mkrow (c3 nb7 nb8 (by omega) (by omega)) (Sm.out ?_)) | (refine CallV.row (by simp only [hget, ↓reduceIte, FR.out, ki, hdd, q1, hin, s1, w1, w2, w3, g3]; first | done | rfl) (c3 nb7 nb8 (by omega) (by omega)) (Sm.out ?_)) | refine CallV.mkrow (c3 nb7 nb8 (by omega) (by omega)) (Sm.out ?_) | (refine CallV.upd (by simp only [hget, ↓reduceIte, FR.out, ki, hdd, q1, hin, s1, w1, w2, w3, g3]; first | done | rfl) (c3 nb7 nb8 (by omega) (by omega)) (Sm.out ?_)) | refine CallV.mkobj (c3 nb7 nb8 (by omega) (by omega)) (Sm.out ?_) | (first | refine CallV.fn (c3 nb7 nb8 (by omega) (by omega)) (Sm.out ?_) | refine ExF.mk (c3 nb7 nb8 (by omega) (by omega)) (Sm.out ?_) | refine ExG.mk (fun _ => c3 nb7 nb8 (by omega) (by omega)) (Sm.out ?_) | refine ExG.mkJ (fun _ => c3 nb7 nb8 (by omega) (by omega)) (Sm.out ?_) | refine ExG.mkI (Ob.out ?_) (fun _ => c3 nb7 nb8 (by omega) (by omega)) (Sm.out ?_)) | (refine WCt.row (by simp only [hget, ↓reduceIte, FR.out, ki, hdd, q1, hin, s1, w1, w2, w3, g3]; first | done | rfl) (c4 nb9 nb10 (by omega) (by omega)) (Sm.out ?_)) | (refine WCt.mkrow (c4 nb9 nb10 (by omega) (by omega)) (Sm.out ?_)) | (refine CallV.row (by simp only [hget, ↓reduceIte, FR.out, ki, hdd, q1, hin, s1, w1, w2, w3, g3]; first | done | rfl) (c4 nb9 nb10 (by omega) (by omega)) (Sm.out ?_)) | refine CallV.mkrow (c4 nb9 nb10 (by omega) (by omega)) (Sm.out ?_) | (refine CallV.upd (by simp only [hget, ↓reduceIte, FR.out, ki, hdd, q1, hin, s1, w1, w2, w3, g3]; first | done | rfl) (c4 nb9 nb10 (by omega) (by omega)) (Sm.out ?_)) | refine CallV.mkobj (c4 nb9 nb10 (by omega) (by omega)) (Sm.out ?_) | (first | refine CallV.fn (c4 nb9 nb10 (by omega) (by omega)) (Sm.out ?_) | refine ExF.mk (c4 nb9 nb10 (by omega) (by omega)) (Sm.out ?_) | refine ExG.mk (fun _ => c4 nb9 nb10 (by omega) (by omega)) (Sm.out ?_) | refine ExG.mkJ (fun _ => c4 nb9 nb10 (by omega) (by omega)) (Sm.out ?_) | refine ExG.mkI (Ob.out ?_) (fun _ => c4 nb9 nb10 (by omega) (by omega)) (Sm.out ?_)) | (refine WCt.row (by simp only [hget, ↓reduceIte, FR.out, ki, hdd, q1, hin, s1, w1, w2, w3, g3]; first | done | rfl) (c5 nb11 nb12 (by omega) (by omega)) (Sm.out ?_)) | (refine WCt.mkrow (c5 nb11 nb12 (by omega) (by omega)) (Sm.out ?_)) | (refine CallV.row (by simp only [hget, ↓reduceIte, FR.out, ki, hdd, q1, hin, s1, w1, w2, w3, g3]; first | done | rfl) (c5 nb11 nb12 (by omega) (by omega)) (Sm.out ?_)) | refine CallV.mkrow (c5 nb11 nb12 (by omega) (by omega)) (Sm.out ?_) | (refine CallV.upd (by simp only [hget, ↓reduceIte, FR.out, ki, hdd, q1, hin, s1, w1, w2, w3, g3]; first | done | rfl) (c5 nb11 nb12 (by omega) (by omega)) (Sm.out ?_)) | refine CallV.mkobj (c5 nb11 nb12 (by omega) (by omega)) (Sm.out ?_) | (first | refine CallV.fn (c5 nb11 nb12 (by omega) (by omega)) (Sm.out ?_) | refine ExF.mk (c5 nb11 nb12 (by omega) (by omega)) (Sm.out ?_) | refine ExG.mk (fun _ => c5 nb11 nb12 (by omega) (by omega)) (Sm.out ?_) | refine ExG.mkJ (fun _ => c5 nb11 nb12 (by omega) (by omega)) (Sm.out ?_) | refine ExG.mkI (Ob.out ?_) (fun _ => c5 nb11 nb12 (by omega) (by omega)) (Sm.out ?_)) | refine YzOuCA ?_ | (refine WP.cond rfl (fun hc => ?_) (fun hc => ?_) <;> (try simp only [ZC, reduceCtorEq, ZD] at hc) <;> (try exact absurd hc (by decide)) <;> (try (exfalso; omega))) | refine Rt.mk (And.intro (fun hg => Sm.out ?_) fun hg => Sm.out ?_) | (refine Nu.mk ?_; first | (fail_if_success have := nb1); intro nb1 | (fail_if_success have := nb2); intro nb2 | (fail_if_success have := nb3); intro nb3 | (fail_if_success have := nb4); intro nb4 | (fail_if_success have := nb5); intro nb5 | (fail_if_success have := nb6); intro nb6 | (fail_if_success have := nb7); intro nb7 | (fail_if_success have := nb8); intro nb8 | (fail_if_success have := nb9); intro nb9 | (fail_if_success have := nb10); intro nb10 | (fail_if_success have := nb11); intro nb11 | (fail_if_success have := nb12); intro nb12 | (fail_if_success have := nb13); intro nb13 | (fail_if_success have := nb14); intro nb14 | (fail_if_success have := nb15); intro nb15 | (fail_if_success have := nb16); intro nb16 | (fail_if_success have := nb17); intro nb17 | (fail_if_success have := nb18); intro nb18 | intro nbz) | (apply Yfr; refine Yf FR fun hFRb FR => ?_) | refine Two.mk ?_ ?_ | (apply Yxc; exact Yx) | refine Cs.mk fun hcs => Sm.out ?_ | go_step | omega | (simp only [maxLen_eq]; omega) | exact trivial | refine Or.inr (Rt.mk (And.intro (fun hg => Sm.out ?_) fun hg => Sm.out ?_))
    have hbb : D5.length ≤ nb14 ∧ nb14 ≤ 9223372036854775807 := hFRb
    exact ⟨⟨i + 1, nb13, nb14⟩, ⟨by simp only; omega, by simp only [hZn]; exact hbb.1, hbb.2, by simp [FR.out]⟩, by simp only; omega, (Sub.pick (by simp [pickB, hget, hdel, FR.out, g3, hZn]) (by simp [look, g3, hZn]))⟩
  · have ki : decide ((i : Int) < (n : Int)) = false := decide_eq_false (by omega)
    obtain rfl : i = n := by omega
    have cE := num_ct x c (Z i) d (by omega) g1 g2 (by omega)
    clear hZl hZs hdr he
    first | (have FRx := FR; clear FRx) | have FR := fr0S
    have FA := Sm.mk (And.intro TFOuCA (And.intro ki g3))
    repeat' first | (apply Sm.mk; refine Ys ?_) | refine WP.seq fun K hK => ?_ | (apply Ob.mk; exact Yo) | refine And.intro (Ob.out ?_) ?_ | refine Y1OuCA ?_ | (refine WCt.row (by simp only [hget, ↓reduceIte, FR.out, ki, g3]; first | done | rfl) (cE) (Sm.out ?_)) | (refine WCt.mkrow (cE) (Sm.out ?_)) | (refine CallV.row (by simp only [hget, ↓reduceIte, FR.out, ki, g3]; first | done | rfl) (cE) (Sm.out ?_)) | refine CallV.mkrow (cE) (Sm.out ?_) | (refine CallV.upd (by simp only [hget, ↓reduceIte, FR.out, ki, g3]; first | done | rfl) (cE) (Sm.out ?_)) | refine CallV.mkobj (cE) (Sm.out ?_) | (first | refine CallV.fn (cE) (Sm.out ?_) | refine ExF.mk (cE) (Sm.out ?_) | refine ExG.mk (fun _ => cE) (Sm.out ?_) | refine ExG.mkJ (fun _ => cE) (Sm.out ?_) | refine ExG.mkI (Ob.out ?_) (fun _ => cE) (Sm.out ?_)) | refine YzOuCA ?_ | (refine WP.cond rfl (fun hc => ?_) (fun hc => ?_) <;> (try simp only [ZC, reduceCtorEq, ZD] at hc) <;> (try exact absurd hc (by decide)) <;> (try (exfalso; omega))) | refine Rt.mk (And.intro (fun hg => Sm.out ?_) fun hg => Sm.out ?_) | (refine Nu.mk ?_; first | (fail_if_success have := nb1); intro nb1 | (fail_if_success have := nb2); intro nb2 | (fail_if_success have := nb3); intro nb3 | (fail_if_success have := nb4); intro nb4 | (fail_if_success have := nb5); intro nb5 | (fail_if_success have := nb6); intro nb6 | (fail_if_success have := nb7); intro nb7 | (fail_if_success have := nb8); intro nb8 | (fail_if_success have := nb9); intro nb9 | (fail_if_success have := nb10); intro nb10 | (fail_if_success have := nb11); intro nb11 | (fail_if_success have := nb12); intro nb12 | (fail_if_success have := nb13); intro nb13 | (fail_if_success have := nb14); intro nb14 | (fail_if_success have := nb15); intro nb15 | (fail_if_success have := nb16); intro nb16 | (fail_if_success have := nb17); intro nb17 | (fail_if_success have := nb18); intro nb18 | intro nbz) | (apply Yfr; refine Yf FR fun hFRb FR => ?_) | refine Two.mk ?_ ?_ | (apply Yxc; exact Yx) | refine Cs.mk fun hcs => Sm.out ?_ | go_step | omega | (simp only [maxLen_eq]; omega) | exact trivial | refine Or.inr (Rt.mk (And.intro (fun hg => Sm.out ?_) fun hg => Sm.out ?_))
    (refine OutQ.row (by simp only [resv, ZK, look, loadv, loadn, loadnm, load1, load1m, hget, ↓reduceIte, Nat.reduceEqDiff, Nat.reduceAdd, Nat.reduceMul, Nat.reduceLeDiff, Nat.reduceLT, reduceCtorEq, TFOuCA, FR.out]) (by simp only [resv, resA, ZK, look, loadv, loadn, loadnm, load1, load1m, hget, ↓reduceIte, Nat.reduceEqDiff, Nat.reduceAdd, Nat.reduceMul, Nat.reduceLeDiff, Nat.reduceLT, reduceCtorEq, TFOuCA, FR.out]; first | done | rfl) (by simp only [hget, ↓reduceIte, if_true, if_false, FR.out]; first | done | rfl) ?_ ?_ ?_ ?_ <;> first | omega | (simp only [maxLen_eq]; omega) | skip)
    all_goals first | rfl | exact List.length_append
end Go.Proofs.YtfknbndmabogjaaDoor
