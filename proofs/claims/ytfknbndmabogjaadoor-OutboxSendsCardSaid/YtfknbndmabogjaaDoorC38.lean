/-
  The walks and the laws that the statement leans on, part 38.
-/
import Derived.Test.YtfknbndmabogjaaDoorC9
import Derived.Test.YtfknbndmabogjaaDoorC37
namespace Go.Proofs.YtfknbndmabogjaaDoor
open Go
set_option linter.unusedVariables false
set_option linter.unusedSimpArgs false
set_option linter.defProp false
def TFOuZE :=
  And.intro (And.intro (And.intro (And.intro (And.intro (And.intro tyc0 tyc2) (And.intro zmb2 (And.intro tyc3 zmb3))) (And.intro (And.intro tyc4 zmb4) (And.intro tyc23 (And.intro foff23_0 fpart23_0)))) (And.intro (And.intro (And.intro foff23_1 fpart23_1) (And.intro foff23_2 (And.intro fpart23_2 foff23_3))) (And.intro (And.intro fpart23_3 foff23_4) (And.intro fpart23_4 (And.intro fe23 zmb23))))) (And.intro (And.intro (And.intro (And.intro bldT23 tyc24) (And.intro elt24 (And.intro mkz24 mkc24))) (And.intro (And.intro apT24 elk24) (And.intro zmb24 (And.intro tyc25 zmb25)))) (And.intro (And.intro (And.intro tyc27 foff27_0) (And.intro fpart27_0 (And.intro foff27_1 fpart27_1))) (And.intro (And.intro zmb27 (And.intro bldT27 tyc29)) (And.intro foff29_0 (And.intro fpart29_0 foff29_1)))))) (And.intro (And.intro (And.intro (And.intro (And.intro fpart29_1 foff29_2) (And.intro fpart29_2 (And.intro foff29_3 fpart29_3))) (And.intro (And.intro foff29_4 fpart29_4) (And.intro fe29 (And.intro zmb29 bldT29)))) (And.intro (And.intro (And.intro tyc38 foff38_0) (And.intro fpart38_0 (And.intro foff38_1 fpart38_1))) (And.intro (And.intro foff38_2 fpart38_2) (And.intro foff38_3 (And.intro fpart38_3 foff38_4))))) (And.intro (And.intro (And.intro (And.intro fpart38_4 zmb38) (And.intro bldT38 (And.intro tyc43 elt43))) (And.intro (And.intro mkz43 mkc43) (And.intro apT43 (And.intro elk43 zmb43)))) (And.intro (And.intro (And.intro Tryd.underlying0 Tryd.underlying2) (And.intro Tryd.underlying3 (And.intro Tryd.underlying4 Tryd.underlying23))) (And.intro (And.intro Tryd.underlying24 (And.intro Tryd.underlying25 Tryd.underlying27)) (And.intro Tryd.underlying29 (And.intro Tryd.underlying38 Tryd.underlying43))))))
theorem Y1OuZE {G R : Prop} (r : R) (h : R → G := by intro r; first | (apply WP.region; exact rvc_sound _ _ (Sm.out r)) | exact WP.drawK rfl mixed (by decide +kernel) (Sm.out r) | (apply WP.block; exact r) | (apply WP.skip; exact Yq r) | (apply WP.exit; exact Yq r) | (apply WP.ret; exact Sm.out r) | exact WP.cond rfl (fun _ => r) (fun hg => absurd hg (by decide)) | exact WP.cond rfl (fun hg => absurd hg (by decide)) (fun _ => r) | exact Rt.mk (And.intro (fun _ => Sm.out r) fun hg => absurd hg (by decide)) | exact Rt.mk (And.intro (fun hg => absurd hg (by decide)) fun _ => Sm.out r)) : G := h r
theorem YzOuZE {G R : Prop} (r : R) (h : R → G := by intro r; first | (apply ExG.no; exact Sm.out r) | (apply Or.inl; apply ExG.no; exact Sm.out r) | exact Or.inl (And.intro (fun hg => absurd hg (by decide)) (ExG.no (Sm.out r)))) : G := h r
theorem YsOuZE0 {P Q : Prop} (q : Q) (h : P = Q := by (try (conv => lhs; simp -dsimp only [ZK, rvc, capA, appA, litL, mkfv, drawF, headN, pureH, stp, dvc, calleeOf, gcall, pev, eff, newB, okd, og, ogs, ogo, ogp, slv, bltv, opd, litv, strip, one, both, putE, St.put, look, gdOf, gdv, picka, pickv, pickw, binv, bini, bins, binb, binp, binq, isSlT, bina, shp, eqCells, unv, convv, nilv, faddv, addp, idxav, idxp, load1, load1m, loadn, loadnm, loadv, hget, hset, hrep, hdel, slicev, slice3v, bnd, shift1, lenv, capv, IntKind.bits, extractv, fieldv, indexv, min2v, max2v, mkiv, tasv, tasz, cellsA, fillA, buildv, stC, oneC, rowMB, intsA, plN, appE, appZ, appC, appS, srcB, appNZ, appNC, VwL, srcC, srcZ, srcM, isBoolT, isPtrT, isSliceT, uOk, Value.oneCell', Nat.reducePow, Int.reducePow, Nat.reduceAdd, Nat.reduceMul, Nat.reduceSub, Nat.reduceLT, Nat.reduceLeDiff, Nat.reduceEqDiff, Nat.reduceBEq, Nat.reduceDiv, Nat.reduceMod, ↓reduceIte, reduceCtorEq, Int.reduceToNat, Int.reduceLT, Int.reduceLE, TFOuZE, SeqQ, BlkQ, LoopQ, BodyQ, hin, FA.out, FR.out])) <;> exact rfl) : P := h.mpr q
theorem vw_rs0 {n : Nat} {C : List AV} {d : Int} {R : AV} (hR : R = .tup [.agg [.sl n C, iv .u64 d], .sl 0 []]) : Vw [] (.tup [.agg [.sl n C, iv .u64 d], nsl]) R := by
  subst hR
  exact .tup rfl fun i hi => by
    match i, hi with
    | 0, _ => exact .same _
    | 1, _ => exact .nils
theorem due_f {a b c d : Bool} (h : (a = false ∨ (b = true ∧ c = false)) ∨ d = true) : (a && (!b || c) && !d) = false := by
  revert h; cases a <;> cases b <;> cases c <;> cases d <;> simp
theorem due_t {a b c d : Bool} (h : (a = true ∧ (b = false ∨ c = true)) ∧ d = false) : (a && (!b || c) && !d) = true := by
  revert h; cases a <;> cases b <;> cases c <;> cases d <;> simp
structure RnS where
  i : Nat
  A : List En
  x : Nat
  k : Nat
  Q : List Ky
  y : Nat
  c : Nat
theorem rdelay_i (f m t : Int) (hf : 1 ≤ f) (hm : f ≤ m) (ht : 1 ≤ t) (hm2 : m ≤ 9223372036854775807) (ht2 : t ≤ 9223372036854775807) :
    ACt Tryd.prog 57 [iv .i64 f, iv .i64 m, iv .i64 t] [] (Fn (iv .i64 ((waitN f.toNat m.toNat (t.toNat - 1) : Nat) : Int))) := by
  obtain ⟨f, rfl⟩ := Int.eq_ofNat_of_zero_le (show 0 ≤ f by omega)
  obtain ⟨m, rfl⟩ := Int.eq_ofNat_of_zero_le (show 0 ≤ m by omega)
  obtain ⟨t, rfl⟩ := Int.eq_ofNat_of_zero_le (show 0 ≤ t by omega)
  simp only [Int.toNat_natCast]
  exact refDelay_ct f m t (by omega) (by omega) (by omega) (by omega) (by omega)
set_option maxHeartbeats 8000000 in
set_option maxRecDepth 8000 in
theorem rsend_row (nt : Nt) (b : Bx) (now : Int) (hs : List Ky) (n m : Nat) (hn : b.l.length = n) (hm : hs.length = m) (hl : n ≤ 100000) (hml : m ≤ 100000) (hz : ∀ e ∈ b.l, Kz e.k) :
    ACt Tryd.prog 26 [ntv nt, .agg [.sl n (ecs b.l), iv .u64 b.d], iv .i64 now, .sl m (kcs hs)] [] (fun r F' => Vw F' r (snR nt b now hs)) := by
  have cN := rnotify_ct nt
  have cR := rbright_ct b n hn hl hz
  have cT := rtick_ct now
  have cHas := fun k => has_ct hs k m hm hml
  have cW := fun q x c => with_l (ecs b.l) n q c (some ⟨x, 0, none⟩) b.d
  have hdr := ecs_drop b.l
  obtain ⟨l, d⟩ := b
  simp only at hn hz cR cW hdr ⊢
  have hCl := ecs_len l
  rw [hn] at hCl
  have hA1 : (ntB nt && bxB ⟨l, d⟩ && tkB now) = false → snR nt ⟨l, d⟩ now hs = .tup [.agg [.sl n (ecs l), iv .u64 d], .sl 0 []] := fun h => by
    unfold snR snB snK; rw [h, ← hn]; rfl
  have hA2 : (ntB nt && bxB ⟨l, d⟩ && tkB now) = true → snR nt ⟨l, d⟩ now hs = .tup [.agg [.sl n (ecs (l.map (snF nt now hs))), iv .u64 d], .sl ((l.filter fun e => gsB nt now hs e).map (·.k)).length (kcs ((l.filter fun e => gsB nt now hs e).map (·.k)))] := fun h => by
    unfold snR snB snK; rw [h, if_pos rfl, if_pos rfl]
    show AV.tup [bxv ⟨l.map (snF nt now hs), d⟩, _] = _
    unfold bxv
    simp only [List.length_map, hn]
  obtain ⟨R, hR⟩ : ∃ R, R = snR nt ⟨l, d⟩ now hs := ⟨_, rfl⟩
  rw [← hR] at hA1 hA2 ⊢
  obtain ⟨C, hC'⟩ : ∃ C, C = ecs l := ⟨_, rfl⟩
  rw [← hC'] at cR cW hA1 hCl hdr ⊢
  obtain ⟨p1, h1⟩ : ∃ p, ntB nt = p := ⟨_, rfl⟩
  obtain ⟨p2, h2⟩ : ∃ p, bxB ⟨l, d⟩ = p := ⟨_, rfl⟩
  obtain ⟨p4, h4⟩ : ∃ p, tkB now = p := ⟨_, rfl⟩
  rw [h1] at cN hA1 hA2
  rw [h2] at cR hA1 hA2
  rw [h4] at cT hA1 hA2
  obtain ⟨K1, hK1⟩ : ∃ K, K = kcs hs := ⟨_, rfl⟩
  rw [← hK1]
  simp only [← hK1] at cHas
  obtain ⟨ro, re, fi, ca, rp⟩ := nt
  refine ACt.intro Tryd.func26 rfl (by kernel_rfl) (by simp [Tryd.ntmps26]) (fun cx => ?_)
  simp only [argE, Tryd.ntmps26, Tryd.results26]
  first | (have FRx := FR; clear FRx) | have FR := fr0S
  have FA := Sm.mk (TFOuZE)
  repeat' first | (apply Sm.mk; refine Ys ?_) | refine WP.seq fun K hK => ?_ | (apply Ob.mk; exact Yo) | refine And.intro (Ob.out ?_) ?_ | refine Y1OuZE ?_ | refine Yc (c := cN) (r := ?_) | refine Yc (c := cR) (r := ?_) | refine Yc (c := cT) (r := ?_) | refine YzOuZE ?_ | (refine WP.cond rfl (fun hc => ?_) (fun hc => ?_) <;> (try simp only [ZC, reduceCtorEq, ZD] at hc) <;> (try exact absurd hc (by decide)) <;> (try (exfalso; omega))) | refine Rt.mk (And.intro (fun hg => Sm.out ?_) fun hg => Sm.out ?_) | (refine Nu.mk ?_; first | (fail_if_success have := nb1); intro nb1 | (fail_if_success have := nb2); intro nb2 | (fail_if_success have := nb3); intro nb3 | (fail_if_success have := nb4); intro nb4 | (fail_if_success have := nb5); intro nb5 | (fail_if_success have := nb6); intro nb6 | (fail_if_success have := nb7); intro nb7 | (fail_if_success have := nb8); intro nb8 | (fail_if_success have := nb9); intro nb9 | (fail_if_success have := nb10); intro nb10 | (fail_if_success have := nb11); intro nb11 | (fail_if_success have := nb12); intro nb12 | (fail_if_success have := nb13); intro nb13 | (fail_if_success have := nb14); intro nb14 | intro nbz) | (apply Yfr; refine Yf FR fun hFRb FR => ?_) | refine Two.mk ?_ ?_ | (apply Yxc; exact Yx) | refine Cs.mk fun hcs => Sm.out ?_ | go_step | omega | (simp only [maxLen_eq]; omega) | exact trivial
  · have hp : (p1 && p2 && p4) = false := by revert hc; cases p1 <;> cases p2 <;> cases p4 <;> simp
    (refine OutQ.drop [] _ (List.Perm.refl _) (by simp only [resv, ZK, look, loadv, loadn, loadnm, load1, load1m, hget, ↓reduceIte, Nat.reduceEqDiff, Nat.reduceAdd, Nat.reduceMul, Nat.reduceLeDiff, Nat.reduceLT, reduceCtorEq, TFOuZE, FR.out]) ?_; simp only [resv, resA, ZK, look, loadv, loadn, loadnm, load1, load1m, hget, ↓reduceIte, Nat.reduceEqDiff, Nat.reduceAdd, Nat.reduceMul, Nat.reduceLeDiff, Nat.reduceLT, reduceCtorEq, TFOuZE, FR.out]; exact vw_rs0 (hA1 hp))
  · have hp : p1 = true ∧ p2 = true ∧ p4 = true := by revert hc; cases p1 <;> cases p2 <;> cases p4 <;> simp
    have hA := hA2 (by rw [hp.1, hp.2.1, hp.2.2]; rfl)
    have hne := FR.out
    obtain ⟨rfl, rfl, rfl⟩ := hp
    have hbd : 1 ≤ fi ∧ fi ≤ ca ∧ ca ≤ 604800 ∧ 0 ≤ rp ∧ rp ≤ 2592000 := by
      unfold ntB at h1
      have := of_decide_eq_true h1
      simp only at this; omega
    have hnow : 0 ≤ now ∧ now ≤ 253402300799 := of_decide_eq_true h4
    have hes : ∀ e ∈ l, 0 ≤ e.t ∧ e.t ≤ 1000000 := fun e he => by
      have h := ((bx_iff _).1 h2).2.1 e he
      unfold erB at h
      simp only [Bool.and_eq_true, decide_eq_true_eq] at h
      omega
    obtain ⟨F, hF⟩ : ∃ F, F = snF ⟨ro, re, fi, ca, rp⟩ now hs := ⟨_, rfl⟩
    obtain ⟨G, hG⟩ : ∃ G, G = fun e => gsB ⟨ro, re, fi, ca, rp⟩ now hs e := ⟨_, rfl⟩
    rw [← hF, ← hG] at hA
    have he0 : kcs [] = [] := rfl
    have he1 : ecs [] = [] := rfl
    have d41 : nb4 ≠ nb1 ∧ nb1 ≠ nb4 := by simp [FR.out]
    have d42 : nb4 ≠ nb2 ∧ nb2 ≠ nb4 := by simp [FR.out]
    have d43 : nb4 ≠ nb3 ∧ nb3 ≠ nb4 := by simp [FR.out]
    have d51 : nb5 ≠ nb1 ∧ nb1 ≠ nb5 := by simp [FR.out]
    have d52 : nb5 ≠ nb2 ∧ nb2 ≠ nb5 := by simp [FR.out]
    have d53 : nb5 ≠ nb3 ∧ nb3 ≠ nb5 := by simp [FR.out]
    have d54 : nb4 ≠ nb5 ∧ nb5 ≠ nb4 := by simp [FR.out]
    have n12 : nb1 ≠ nb2 ∧ nb2 ≠ nb1 := by simp [FR.out]
    have n13 : nb1 ≠ nb3 ∧ nb3 ≠ nb1 := by simp [FR.out]
    have n23 : nb2 ≠ nb3 ∧ nb3 ≠ nb2 := by simp [FR.out]
    refine WP.loop (Γ := RnS) (fun g => ⟨[(12, iv .i64 (g.i : Int)), (11, ms g.y 0 g.Q.length g.c), (10, ms g.x 0 g.A.length g.k), (8, pt nb3 0), (5, pt nb2 0), (4, pt nb1 0), (2, iv .i64 now), (3, .sl m K1)], [(g.y, .cells (kcs g.Q) (g.c * 5) 29), (g.x, .cells (ecs g.A) (g.k * 9) 38), (nb3, .cells [.lit (.slice none 0 0), iv .u64 0] 2 27), (nb2, .cells [.sl n C, iv .u64 d] 2 27), (nb1, .cells [iv .i64 ro, iv .i64 re, iv .i64 fi, iv .i64 ca, iv .i64 rp] 5 23)]⟩)
      (fun g => (g.i ≤ n ∧ g.A.length = g.i ∧ g.A.length ≤ g.k ∧ g.k ≤ 9223372036854775807 ∧ g.Q.length ≤ g.i ∧ g.Q.length ≤ g.c ∧ g.c ≤ 9223372036854775807) ∧ g.A = (l.take g.i).map F ∧ g.Q = ((l.take g.i).filter G).map (·.k) ∧ (g.x ≠ nb1 ∧ nb1 ≠ g.x) ∧ (g.x ≠ nb2 ∧ nb2 ≠ g.x) ∧ (g.x ≠ nb3 ∧ nb3 ≠ g.x) ∧ (g.y ≠ nb1 ∧ nb1 ≠ g.y) ∧ (g.y ≠ nb2 ∧ nb2 ≠ g.y) ∧ (g.y ≠ nb3 ∧ nb3 ≠ g.y) ∧ (g.x ≠ g.y ∧ g.y ≠ g.x)) (fun g => n - g.i) ⟨0, [], nb4, 0, [], nb5, 0⟩
      ⟨⟨Nat.zero_le _, rfl, by simp, by simp, by simp, by simp, by simp⟩, by simp, by simp, d41, d42, d43, d51, d52, d53, d54⟩ (Sub.pick (by simp [pickB, hget, hdel, FR.out, hne, he0, he1, List.length_nil, Nat.zero_mul]) (by simp [look, hne, he0, he1, List.length_nil, Nat.zero_mul])) ?_
    clear d41 d42 d43 d51 d52 d53 d54
    intro ⟨i, A, x, k, Q, y, c⟩ ⟨⟨hi, ha1, ha2, ha3, hq1, hq2, hq3⟩, hTA, hTQ, x1, x2, x3, y1, y2, y3, xy⟩
    simp only at hi ha1 ha2 ha3 hq1 hq2 hq3 hTA hTQ x1 x2 x3 y1 y2 y3 xy ⊢
    have FR : Sm (¬ ((1 : Nat) = 0)) := Sm.mk Nat.one_ne_zero
    have hAl := ecs_len A
    have hAo := ecs_one A
    have hAa := fun e => ecs_app A [e]
    have hQl := kcs_len Q
    have hQo := kcs_one Q
    have hQa := fun e => kcs_app Q [e]
    rw [ha1] at hAl ha2 ⊢
    by_cases hin : i < n
    · have ki : decide ((i : Int) < (n : Int)) = true := decide_eq_true (by omega)
      have s1 : IntKind.i64.wrap ((i : Int) + 1) = ((i + 1 : Nat) : Int) := by rw [wrap_i64 (by omega) (by omega)]; omega
      have hd := hdr i (by omega)
      have htk := List.take_succ_eq_append_getElem (show i < l.length by omega)
      have hvm : l[i]'(by omega) ∈ l := List.getElem_mem _
      obtain ⟨v, hv⟩ : ∃ v, v = l[i]'(by omega) := ⟨_, rfl⟩
      rw [← hv] at hd htk hvm
      have het := hes v hvm
      have hFv : F v = if G v then snE ⟨ro, re, fi, ca, rp⟩ now v else v := by rw [hF, hG]; rfl
      have hGv : G v = (dueB ⟨ro, re, fi, ca, rp⟩ v now && !hasB hs v.k) := by rw [hG]; rfl
      have cH := cHas v.k
      obtain ⟨w, hw⟩ : ∃ w, hasB hs v.k = w := ⟨_, rfl⟩
      rw [hw] at cH hGv
      unfold dueB at hGv
      obtain ⟨u1, hu1⟩ : ∃ u, decide (v.n ≤ now) = u := ⟨_, rfl⟩
      obtain ⟨u2, hu2⟩ : ∃ u, decide (0 < (Nt.mk ro re fi ca rp).rep) = u := ⟨_, rfl⟩
      have hu3 : decide (rp > 0) = u2 := hu2
      rw [hu1, hu2] at hGv
      have hTA2 : A ++ [F v] = (l.take (i + 1)).map F := by rw [htk, hTA]; simp
      have hQn : G v = false → Q = ((l.take (i + 1)).filter G).map (·.k) := fun h => by rw [htk, List.filter_append, hTQ]; simp [h]
      have hQy : G v = true → Q ++ [v.k] = ((l.take (i + 1)).filter G).map (·.k) := fun h => by rw [htk, List.filter_append, hTQ]; simp [h]
      have hE : snE ⟨ro, re, fi, ca, rp⟩ now v = ⟨v.k, v.b, now + wtN ⟨ro, re, fi, ca, rp⟩ v, tr1 v.t, v.a⟩ := rfl
      have hW1 : v.a = true → wtN ⟨ro, re, fi, ca, rp⟩ v = rp := fun h => by unfold wtN; rw [if_pos h]
      have hW2 : v.a = false → wtN ⟨ro, re, fi, ca, rp⟩ v = ((waitN fi.toNat ca.toNat ((tr1 v.t).toNat - 1) : Nat) : Int) := fun h => by unfold wtN; rw [if_neg (by rw [h]; decide)]; rfl
      have ht1 : 1 ≤ tr1 v.t ∧ tr1 v.t ≤ 1000000 := by unfold tr1; split <;> omega
      have htr1 : v.t < 1000000 → IntKind.i64.wrap (v.t + 1) = tr1 v.t := fun h => by rw [wrap_i64 (by omega) (by omega)]; unfold tr1; rw [if_pos h]
      have htr2 : ¬ v.t < 1000000 → v.t = tr1 v.t := fun h => by unfold tr1; rw [if_neg h]
      obtain ⟨T, hT⟩ : ∃ T, T = tr1 v.t := ⟨_, rfl⟩
      rw [← hT] at hE hW2 ht1
      rw [← hT] at htr1 htr2
      have cD := rdelay_i fi ca T (by omega) (by omega) (by omega) (by omega) (by omega)
      have hwl := waitN_le fi.toNat ca.toNat (T.toNat - 1)
      obtain ⟨wt, hwt⟩ : ∃ wt, wt = waitN fi.toNat ca.toNat (T.toNat - 1) := ⟨_, rfl⟩
      rw [← hwt] at hW2 cD hwl
      have w1 : IntKind.i64.wrap (now + rp) = now + rp := wrap_i64 (by omega) (by omega)
      have w2 : IntKind.i64.wrap (now + (wt : Int)) = now + (wt : Int) := wrap_i64 (by omega) (by omega)
      have hS0 : G v = false → ecs A ++ ec v [] = ecs (A ++ [F v]) := fun h => by rw [hAa, hFv, h]; rfl
      have hS1 : G v = true → v.a = true → ecs A ++ ec ⟨v.k, v.b, now + rp, T, v.a⟩ [] = ecs (A ++ [F v]) := fun h h2 => by rw [hAa, hFv, h, if_pos rfl, hE, hW1 h2]; rfl
      have hS2 : G v = true → v.a = false → ecs A ++ ec ⟨v.k, v.b, now + (wt : Int), T, v.a⟩ [] = ecs (A ++ [F v]) := fun h h2 => by rw [hAa, hFv, h, if_pos rfl, hE, hW2 h2]; rfl
      have hQb : kcs Q ++ [.lit (.string v.k.g), .lit (.string v.k.r), bv v.k.p, iv .u64 v.k.e, bv v.k.s] = kcs (Q ++ [v.k]) := (hQa _).symm
      have hQl1 : (Q ++ [v.k]).length = Q.length + 1 := by simp
      have hAl1 : (A ++ [F v]).length = i + 1 := by rw [List.length_append, ha1]; rfl
      obtain ⟨FV, hFV⟩ : ∃ FV, FV = F v := ⟨_, rfl⟩
      rw [← hFV] at hTA2 hS0 hS1 hS2 hAl1
      obtain ⟨gv, hgv⟩ : ∃ gv, G v = gv := ⟨_, rfl⟩
      rw [hgv] at hQn hQy hS0 hS1 hS2 hGv
      clear hE hW1 hW2 htk hvm hFv hT hwt hAa hQa hgv hv hw hu2 hFV
      obtain ⟨⟨vg, vr, vp, ve, vs⟩, eb, en, et, ea⟩ := v
      simp only at hd cH hQy hS0 hS1 hS2 het hGv htr1 htr2 hu1 hQb hQl1
      obtain ⟨C1, hC1⟩ : ∃ q, q = ecs A := ⟨_, rfl⟩
      rw [← hC1] at hAl hAo hS0 hS1 hS2 ⊢
      obtain ⟨C2, hC2⟩ : ∃ q, q = kcs Q := ⟨_, rfl⟩
      rw [← hC2] at hQl hQo hQb ⊢
      have q1 : (i + 1) * 9 ≤ C.length := by omega
      by_cases ht : et < 1000000
      · have kt : decide (et < 1000000) = true := decide_eq_true ht
        have s3 := htr1 ht
        first | (have FRx := FR; clear FRx) | have FR := fr0S
        have FA := Sm.mk (And.intro TFOuZE (And.intro ki (And.intro hd (And.intro q1 (And.intro s1 (And.intro s3 (And.intro kt (And.intro hu1 (And.intro hu3 (And.intro x1 (And.intro x2 (And.intro x3 (And.intro y1 (And.intro y2 (And.intro y3 (And.intro xy (And.intro n12 (And.intro n13 (And.intro n23 (And.intro w1 (And.intro w2 (And.intro hAl (And.intro hAo (And.intro hQl hQo))))))))))))))))))))))))
        repeat' first | (apply Sm.mk; refine YsOuZE0 ?_) | refine WP.seq fun K hK => ?_ | (apply Ob.mk; exact Yo) | refine And.intro (Ob.out ?_) ?_ | refine Y1OuZE ?_ | refine Yc (c := cH) (r := ?_) | refine Yc (c := cD) (r := ?_) | refine YzOuZE ?_ | (refine WP.cond rfl (fun hc => ?_) (fun hc => ?_) <;> (try simp only [ZC, reduceCtorEq, ZD] at hc) <;> (try exact absurd hc (by decide)) <;> (try (exfalso; omega))) | refine Rt.mk (And.intro (fun hg => Sm.out ?_) fun hg => Sm.out ?_) | (refine Nu.mk ?_; first | (fail_if_success have := nb1); intro nb1 | (fail_if_success have := nb2); intro nb2 | (fail_if_success have := nb3); intro nb3 | (fail_if_success have := nb4); intro nb4 | (fail_if_success have := nb5); intro nb5 | (fail_if_success have := nb6); intro nb6 | (fail_if_success have := nb7); intro nb7 | (fail_if_success have := nb8); intro nb8 | (fail_if_success have := nb9); intro nb9 | (fail_if_success have := nb10); intro nb10 | (fail_if_success have := nb11); intro nb11 | (fail_if_success have := nb12); intro nb12 | (fail_if_success have := nb13); intro nb13 | (fail_if_success have := nb14); intro nb14 | intro nbz) | (apply Yfr; refine Yf FR fun hFRb FR => ?_) | refine Two.mk ?_ ?_ | (apply Yxc; exact Yx) | refine Cs.mk fun hcs => Sm.out ?_ | go_step | omega | (simp only [maxLen_eq]; omega) | exact trivial
        · have hcA : (u1 = true ∧ (ea = false ∨ u2 = true)) ∧ w = false := by assumption
          have hG : gv = true := hGv.trans (due_t hcA)
          have hh : C1 ++ [.lit (.string vg), .lit (.string vr), bv vp, iv .u64 ve, bv vs, iv .i64 eb, iv .i64 (now + rp), iv .i64 T, bv ea] = ecs (A ++ [FV]) := hS1 hG hc
          have f1 : nb11 ≠ nb1 ∧ nb1 ≠ nb11 := by simp [FR.out]
          have f2 : nb11 ≠ nb2 ∧ nb2 ≠ nb11 := by simp [FR.out]
          have f3 : nb11 ≠ nb3 ∧ nb3 ≠ nb11 := by simp [FR.out]
          have f4 : nb8 ≠ nb1 ∧ nb1 ≠ nb8 := by simp [FR.out]
          have f5 : nb8 ≠ nb2 ∧ nb2 ≠ nb8 := by simp [FR.out]
          have f6 : nb8 ≠ nb3 ∧ nb3 ≠ nb8 := by simp [FR.out]
          have f7 : nb11 ≠ nb8 ∧ nb8 ≠ nb11 := by simp [FR.out]
          exact ⟨⟨i + 1, A ++ [FV], nb11, nb12, Q ++ [⟨vg, vr, vp, ve, vs⟩], nb8, nb9⟩, ⟨⟨by simp only; omega, hAl1, by simp only [hAl1]; omega, by simp only; omega, by simp only [hQl1]; omega, by simp only [hQl1]; omega, by simp only; omega⟩, hTA2, hQy hG, f1, f2, f3, f4, f5, f6, f7⟩, by simp only; omega, (Sub.pick (by simp [pickB, hget, hdel, FR.out, n12, n13, n23, f1, f2, f3, f4, f5, f6, f7, hh, hQb, hQl1, hAl1]) (by simp [look, n12, n13, n23, f1, f2, f3, f4, f5, f6, f7, hh, hQb, hQl1, hAl1]))⟩
        · have hcA : (u1 = true ∧ (ea = false ∨ u2 = true)) ∧ w = false := by assumption
          have hG : gv = true := hGv.trans (due_t hcA)
          have hh : C1 ++ [.lit (.string vg), .lit (.string vr), bv vp, iv .u64 ve, bv vs, iv .i64 eb, iv .i64 (now + (wt : Int)), iv .i64 T, bv ea] = ecs (A ++ [FV]) := hS2 hG hc
          have f1 : nb11 ≠ nb1 ∧ nb1 ≠ nb11 := by simp [FR.out]
          have f2 : nb11 ≠ nb2 ∧ nb2 ≠ nb11 := by simp [FR.out]
          have f3 : nb11 ≠ nb3 ∧ nb3 ≠ nb11 := by simp [FR.out]
          have f4 : nb8 ≠ nb1 ∧ nb1 ≠ nb8 := by simp [FR.out]
          have f5 : nb8 ≠ nb2 ∧ nb2 ≠ nb8 := by simp [FR.out]
          have f6 : nb8 ≠ nb3 ∧ nb3 ≠ nb8 := by simp [FR.out]
          have f7 : nb11 ≠ nb8 ∧ nb8 ≠ nb11 := by simp [FR.out]
          exact ⟨⟨i + 1, A ++ [FV], nb11, nb12, Q ++ [⟨vg, vr, vp, ve, vs⟩], nb8, nb9⟩, ⟨⟨by simp only; omega, hAl1, by simp only [hAl1]; omega, by simp only; omega, by simp only [hQl1]; omega, by simp only [hQl1]; omega, by simp only; omega⟩, hTA2, hQy hG, f1, f2, f3, f4, f5, f6, f7⟩, by simp only; omega, (Sub.pick (by simp [pickB, hget, hdel, FR.out, n12, n13, n23, f1, f2, f3, f4, f5, f6, f7, hh, hQb, hQl1, hAl1]) (by simp [look, n12, n13, n23, f1, f2, f3, f4, f5, f6, f7, hh, hQb, hQl1, hAl1]))⟩
        · have hG : gv = false := hGv.trans (due_f hc)
          have hh : C1 ++ [.lit (.string vg), .lit (.string vr), bv vp, iv .u64 ve, bv vs, iv .i64 eb, iv .i64 en, iv .i64 et, bv ea] = ecs (A ++ [FV]) := hS0 hG
          have f1 : nb8 ≠ nb1 ∧ nb1 ≠ nb8 := by simp [FR.out]
          have f2 : nb8 ≠ nb2 ∧ nb2 ≠ nb8 := by simp [FR.out]
          have f3 : nb8 ≠ nb3 ∧ nb3 ≠ nb8 := by simp [FR.out]
          have f7 : nb8 ≠ y ∧ y ≠ nb8 := by simp [FR.out]
          exact ⟨⟨i + 1, A ++ [FV], nb8, nb9, Q, y, c⟩, ⟨⟨by simp only; omega, hAl1, by simp only [hAl1]; omega, by simp only; omega, by simp only; omega, hq2, hq3⟩, hTA2, hQn hG, f1, f2, f3, y1, y2, y3, f7⟩, by simp only; omega, (Sub.pick (by simp [pickB, hget, hdel, FR.out, n12, n13, n23, f1, f2, f3, f7, y1, y2, y3, hh, hC2, hAl1]) (by simp [look, n12, n13, n23, f1, f2, f3, f7, y1, y2, y3, hh, hC2, hAl1]))⟩
      · have kt : decide (et < 1000000) = false := decide_eq_false ht
        obtain rfl : et = T := htr2 ht
        first | (have FRx := FR; clear FRx) | have FR := fr0S
        have FA := Sm.mk (And.intro TFOuZE (And.intro ki (And.intro hd (And.intro q1 (And.intro s1 (And.intro kt (And.intro hu1 (And.intro hu3 (And.intro x1 (And.intro x2 (And.intro x3 (And.intro y1 (And.intro y2 (And.intro y3 (And.intro xy (And.intro n12 (And.intro n13 (And.intro n23 (And.intro w1 (And.intro w2 (And.intro hAl (And.intro hAo (And.intro hQl hQo)))))))))))))))))))))))
        repeat' first | (apply Sm.mk; refine YsOuZE0 ?_) | refine WP.seq fun K hK => ?_ | (apply Ob.mk; exact Yo) | refine And.intro (Ob.out ?_) ?_ | refine Y1OuZE ?_ | refine Yc (c := cH) (r := ?_) | refine Yc (c := cD) (r := ?_) | refine YzOuZE ?_ | (refine WP.cond rfl (fun hc => ?_) (fun hc => ?_) <;> (try simp only [ZC, reduceCtorEq, ZD] at hc) <;> (try exact absurd hc (by decide)) <;> (try (exfalso; omega))) | refine Rt.mk (And.intro (fun hg => Sm.out ?_) fun hg => Sm.out ?_) | (refine Nu.mk ?_; first | (fail_if_success have := nb1); intro nb1 | (fail_if_success have := nb2); intro nb2 | (fail_if_success have := nb3); intro nb3 | (fail_if_success have := nb4); intro nb4 | (fail_if_success have := nb5); intro nb5 | (fail_if_success have := nb6); intro nb6 | (fail_if_success have := nb7); intro nb7 | (fail_if_success have := nb8); intro nb8 | (fail_if_success have := nb9); intro nb9 | (fail_if_success have := nb10); intro nb10 | (fail_if_success have := nb11); intro nb11 | (fail_if_success have := nb12); intro nb12 | (fail_if_success have := nb13); intro nb13 | (fail_if_success have := nb14); intro nb14 | intro nbz) | (apply Yfr; refine Yf FR fun hFRb FR => ?_) | refine Two.mk ?_ ?_ | (apply Yxc; exact Yx) | refine Cs.mk fun hcs => Sm.out ?_ | go_step | omega | (simp only [maxLen_eq]; omega) | exact trivial
        · have hcA : (u1 = true ∧ (ea = false ∨ u2 = true)) ∧ w = false := by assumption
          have hG : gv = true := hGv.trans (due_t hcA)
          have hh : C1 ++ [.lit (.string vg), .lit (.string vr), bv vp, iv .u64 ve, bv vs, iv .i64 eb, iv .i64 (now + rp), iv .i64 et, bv ea] = ecs (A ++ [FV]) := hS1 hG hc
          have f1 : nb11 ≠ nb1 ∧ nb1 ≠ nb11 := by simp [FR.out]
          have f2 : nb11 ≠ nb2 ∧ nb2 ≠ nb11 := by simp [FR.out]
          have f3 : nb11 ≠ nb3 ∧ nb3 ≠ nb11 := by simp [FR.out]
          have f4 : nb8 ≠ nb1 ∧ nb1 ≠ nb8 := by simp [FR.out]
          have f5 : nb8 ≠ nb2 ∧ nb2 ≠ nb8 := by simp [FR.out]
          have f6 : nb8 ≠ nb3 ∧ nb3 ≠ nb8 := by simp [FR.out]
          have f7 : nb11 ≠ nb8 ∧ nb8 ≠ nb11 := by simp [FR.out]
          exact ⟨⟨i + 1, A ++ [FV], nb11, nb12, Q ++ [⟨vg, vr, vp, ve, vs⟩], nb8, nb9⟩, ⟨⟨by simp only; omega, hAl1, by simp only [hAl1]; omega, by simp only; omega, by simp only [hQl1]; omega, by simp only [hQl1]; omega, by simp only; omega⟩, hTA2, hQy hG, f1, f2, f3, f4, f5, f6, f7⟩, by simp only; omega, (Sub.pick (by simp [pickB, hget, hdel, FR.out, n12, n13, n23, f1, f2, f3, f4, f5, f6, f7, hh, hQb, hQl1, hAl1]) (by simp [look, n12, n13, n23, f1, f2, f3, f4, f5, f6, f7, hh, hQb, hQl1, hAl1]))⟩
        · have hcA : (u1 = true ∧ (ea = false ∨ u2 = true)) ∧ w = false := by assumption
          have hG : gv = true := hGv.trans (due_t hcA)
          have hh : C1 ++ [.lit (.string vg), .lit (.string vr), bv vp, iv .u64 ve, bv vs, iv .i64 eb, iv .i64 (now + (wt : Int)), iv .i64 et, bv ea] = ecs (A ++ [FV]) := hS2 hG hc
          have f1 : nb11 ≠ nb1 ∧ nb1 ≠ nb11 := by simp [FR.out]
          have f2 : nb11 ≠ nb2 ∧ nb2 ≠ nb11 := by simp [FR.out]
          have f3 : nb11 ≠ nb3 ∧ nb3 ≠ nb11 := by simp [FR.out]
          have f4 : nb8 ≠ nb1 ∧ nb1 ≠ nb8 := by simp [FR.out]
          have f5 : nb8 ≠ nb2 ∧ nb2 ≠ nb8 := by simp [FR.out]
          have f6 : nb8 ≠ nb3 ∧ nb3 ≠ nb8 := by simp [FR.out]
          have f7 : nb11 ≠ nb8 ∧ nb8 ≠ nb11 := by simp [FR.out]
          exact ⟨⟨i + 1, A ++ [FV], nb11, nb12, Q ++ [⟨vg, vr, vp, ve, vs⟩], nb8, nb9⟩, ⟨⟨by simp only; omega, hAl1, by simp only [hAl1]; omega, by simp only; omega, by simp only [hQl1]; omega, by simp only [hQl1]; omega, by simp only; omega⟩, hTA2, hQy hG, f1, f2, f3, f4, f5, f6, f7⟩, by simp only; omega, (Sub.pick (by simp [pickB, hget, hdel, FR.out, n12, n13, n23, f1, f2, f3, f4, f5, f6, f7, hh, hQb, hQl1, hAl1]) (by simp [look, n12, n13, n23, f1, f2, f3, f4, f5, f6, f7, hh, hQb, hQl1, hAl1]))⟩
        · have hG : gv = false := hGv.trans (due_f hc)
          have hh : C1 ++ [.lit (.string vg), .lit (.string vr), bv vp, iv .u64 ve, bv vs, iv .i64 eb, iv .i64 en, iv .i64 et, bv ea] = ecs (A ++ [FV]) := hS0 hG
          have f1 : nb8 ≠ nb1 ∧ nb1 ≠ nb8 := by simp [FR.out]
          have f2 : nb8 ≠ nb2 ∧ nb2 ≠ nb8 := by simp [FR.out]
          have f3 : nb8 ≠ nb3 ∧ nb3 ≠ nb8 := by simp [FR.out]
          have f7 : nb8 ≠ y ∧ y ≠ nb8 := by simp [FR.out]
          exact ⟨⟨i + 1, A ++ [FV], nb8, nb9, Q, y, c⟩, ⟨⟨by simp only; omega, hAl1, by simp only [hAl1]; omega, by simp only; omega, by simp only; omega, hq2, hq3⟩, hTA2, hQn hG, f1, f2, f3, y1, y2, y3, f7⟩, by simp only; omega, (Sub.pick (by simp [pickB, hget, hdel, FR.out, n12, n13, n23, f1, f2, f3, f7, y1, y2, y3, hh, hC2, hAl1]) (by simp [look, n12, n13, n23, f1, f2, f3, f7, y1, y2, y3, hh, hC2, hAl1]))⟩
    · have ki : decide ((i : Int) < (n : Int)) = false := decide_eq_false (by omega)
      obtain rfl : i = n := by omega
      rw [List.take_of_length_le (by omega)] at hTQ hTA
      rw [← hTQ, ← hTA] at hA
      have cV := cW i x k
      obtain ⟨K2, hK2⟩ : ∃ q, q = kcs Q := ⟨_, rfl⟩
      rw [← hK2] at hQl hA ⊢
      have e5 : K2.take (Q.length * 5) = K2 := List.take_of_length_le (by omega)
      first | (have FRx := FR; clear FRx) | have FR := fr0S
      have FA := Sm.mk (And.intro TFOuZE (And.intro ki (And.intro x1 (And.intro x2 (And.intro x3 (And.intro y1 (And.intro y2 (And.intro y3 (And.intro xy (And.intro n12 (And.intro n13 n23)))))))))))
      repeat' first | (apply Sm.mk; refine Ys ?_) | refine WP.seq fun K hK => ?_ | (apply Ob.mk; exact Yo) | refine And.intro (Ob.out ?_) ?_ | refine Y1OuZE ?_ | refine Yc (c := cV) (r := ?_) | refine YzOuZE ?_ | (refine WP.cond rfl (fun hc => ?_) (fun hc => ?_) <;> (try simp only [ZC, reduceCtorEq, ZD] at hc) <;> (try exact absurd hc (by decide)) <;> (try (exfalso; omega))) | refine Rt.mk (And.intro (fun hg => Sm.out ?_) fun hg => Sm.out ?_) | (refine Nu.mk ?_; first | (fail_if_success have := nb1); intro nb1 | (fail_if_success have := nb2); intro nb2 | (fail_if_success have := nb3); intro nb3 | (fail_if_success have := nb4); intro nb4 | (fail_if_success have := nb5); intro nb5 | (fail_if_success have := nb6); intro nb6 | (fail_if_success have := nb7); intro nb7 | (fail_if_success have := nb8); intro nb8 | (fail_if_success have := nb9); intro nb9 | (fail_if_success have := nb10); intro nb10 | (fail_if_success have := nb11); intro nb11 | (fail_if_success have := nb12); intro nb12 | (fail_if_success have := nb13); intro nb13 | (fail_if_success have := nb14); intro nb14 | intro nbz) | (apply Yfr; refine Yf FR fun hFRb FR => ?_) | refine Two.mk ?_ ?_ | (apply Yxc; exact Yx) | refine Cs.mk fun hcs => Sm.out ?_ | go_step | omega | (simp only [maxLen_eq]; omega) | exact trivial
      (refine OutQ.wk (Wk.freezeC (y) (5) (by simp only [ZK, rvc, capA, appA, litL, mkfv, drawF, headN, pureH, stp, dvc, calleeOf, gcall, pev, eff, newB, okd, og, ogs, ogo, ogp, slv, bltv, opd, litv, strip, one, both, putE, St.put, look, gdOf, gdv, picka, pickv, pickw, binv, bini, bins, binb, binp, binq, isSlT, bina, shp, eqCells, unv, convv, nilv, faddv, addp, idxav, idxp, load1, load1m, loadn, loadnm, loadv, hget, hset, hrep, hdel, slicev, slice3v, bnd, shift1, lenv, capv, IntKind.bits, extractv, fieldv, indexv, min2v, max2v, mkiv, tasv, tasz, cellsA, fillA, buildv, stC, oneC, rowMB, intsA, plN, appE, appZ, appC, appS, srcB, appNZ, appNC, VwL, srcC, srcZ, srcM, isBoolT, isPtrT, isSliceT, uOk, Value.oneCell', Nat.reducePow, Int.reducePow, Nat.reduceAdd, Nat.reduceMul, Nat.reduceSub, Nat.reduceLT, Nat.reduceLeDiff, Nat.reduceEqDiff, Nat.reduceBEq, Nat.reduceDiv, Nat.reduceMod, ↓reduceIte, reduceCtorEq, Int.reduceToNat, Int.reduceLT, Int.reduceLE, TFOuZE, SeqQ, BlkQ, LoopQ, BodyQ, hQl, e5, hq2, hq3, x1, x2, x3, y1, y2, y3, xy, maxLen_eq, FR.out]; first | done | rfl)) ?_; simp only [frzCE, frzC, ZK, rvc, capA, appA, litL, mkfv, drawF, headN, pureH, stp, dvc, calleeOf, gcall, pev, eff, newB, okd, og, ogs, ogo, ogp, slv, bltv, opd, litv, strip, one, both, putE, St.put, look, gdOf, gdv, picka, pickv, pickw, binv, bini, bins, binb, binp, binq, isSlT, bina, shp, eqCells, unv, convv, nilv, faddv, addp, idxav, idxp, load1, load1m, loadn, loadnm, loadv, hget, hset, hrep, hdel, slicev, slice3v, bnd, shift1, lenv, capv, IntKind.bits, extractv, fieldv, indexv, min2v, max2v, mkiv, tasv, tasz, cellsA, fillA, buildv, stC, oneC, rowMB, intsA, plN, appE, appZ, appC, appS, srcB, appNZ, appNC, VwL, srcC, srcZ, srcM, isBoolT, isPtrT, isSliceT, uOk, Value.oneCell', Nat.reducePow, Int.reducePow, Nat.reduceAdd, Nat.reduceMul, Nat.reduceSub, Nat.reduceLT, Nat.reduceLeDiff, Nat.reduceEqDiff, Nat.reduceBEq, Nat.reduceDiv, Nat.reduceMod, ↓reduceIte, reduceCtorEq, Int.reduceToNat, Int.reduceLT, Int.reduceLE, TFOuZE, SeqQ, BlkQ, LoopQ, BodyQ, hQl, e5, hq2, hq3, x1, x2, x3, y1, y2, y3, xy, maxLen_eq, FR.out])
      (refine OutQ.drop _ _ (perm1 (b := x) (by simp only [hget, hdel, ↓reduceIte, if_true, if_false, FR.out, x1, x2, x3, y1, y2, y3, xy]; first | done | rfl)) (by simp only [resv, ZK, look, loadv, loadn, loadnm, load1, load1m, hget, ↓reduceIte, Nat.reduceEqDiff, Nat.reduceAdd, Nat.reduceMul, Nat.reduceLeDiff, Nat.reduceLT, reduceCtorEq, TFOuZE, FR.out, x1, x2, x3, y1, y2, y3, xy]) ?_; simp only [resv, resA, ZK, look, loadv, loadn, loadnm, load1, load1m, hget, ↓reduceIte, Nat.reduceEqDiff, Nat.reduceAdd, Nat.reduceMul, Nat.reduceLeDiff, Nat.reduceLT, reduceCtorEq, TFOuZE, FR.out, x1, x2, x3, y1, y2, y3, xy]; exact vw_sn1 hA ha2 ha3)
theorem rsend_ct (nt : Nt) (b : Bx) (now : Int) (hs : List Ky) (n m : Nat) (hn : b.l.length = n) (hm : hs.length = m) (hl : n ≤ 100000) (hml : m ≤ 100000) (hz : ∀ e ∈ b.l, Kz e.k) :
    ACt Tryd.prog 26 [ntv nt, .agg [.sl n (ecs b.l), iv .u64 b.d], iv .i64 now, .sl m (kcs hs)] [] (Fn (snR nt b now hs)) :=
  ACt.fzV (rsend_row nt b now hs n m hn hm hl hml hz)
end Go.Proofs.YtfknbndmabogjaaDoor
