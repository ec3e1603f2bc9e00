/-
  The walks and the laws that the statement leans on, part 36.
-/
import Derived.Test.YtfknbndmabogjaaDoorD9
import Derived.Test.YtfknbndmabogjaaDoorD35
namespace Go.Proofs.YtfknbndmabogjaaDoor
open Go
set_option linter.unusedVariables false
set_option linter.unusedSimpArgs false
set_option linter.defProp false
def TFOuZC :=
  And.intro (And.intro (And.intro (And.intro (And.intro (And.intro tyc0 tyc2) (And.intro zmb2 (And.intro tyc3 zmb3))) (And.intro (And.intro tyc4 zmb4) (And.intro tyc23 (And.intro foff23_0 fpart23_0)))) (And.intro (And.intro (And.intro foff23_1 fpart23_1) (And.intro foff23_2 (And.intro fpart23_2 foff23_3))) (And.intro (And.intro fpart23_3 (And.intro foff23_4 fpart23_4)) (And.intro fe23 (And.intro zmb23 bldT23))))) (And.intro (And.intro (And.intro (And.intro tyc24 elt24) (And.intro mkz24 (And.intro mkc24 apT24))) (And.intro (And.intro elk24 (And.intro zmb24 tyc27)) (And.intro foff27_0 (And.intro fpart27_0 foff27_1)))) (And.intro (And.intro (And.intro fpart27_1 zmb27) (And.intro bldT27 (And.intro tyc29 foff29_0))) (And.intro (And.intro fpart29_0 (And.intro foff29_1 fpart29_1)) (And.intro foff29_2 (And.intro fpart29_2 foff29_3)))))) (And.intro (And.intro (And.intro (And.intro (And.intro fpart29_3 foff29_4) (And.intro fpart29_4 (And.intro fe29 zmb29))) (And.intro (And.intro bldT29 (And.intro tyc34 zmb34)) (And.intro tyc38 (And.intro foff38_0 fpart38_0)))) (And.intro (And.intro (And.intro foff38_1 fpart38_1) (And.intro foff38_2 (And.intro fpart38_2 foff38_3))) (And.intro (And.intro fpart38_3 (And.intro foff38_4 fpart38_4)) (And.intro zmb38 (And.intro bldT38 tyc43))))) (And.intro (And.intro (And.intro (And.intro elt43 mkz43) (And.intro mkc43 (And.intro apT43 elk43))) (And.intro (And.intro zmb43 (And.intro tyc79 zmb79)) (And.intro tyc81 (And.intro Tryd.underlying0 Tryd.underlying2)))) (And.intro (And.intro (And.intro Tryd.underlying3 Tryd.underlying4) (And.intro Tryd.underlying23 (And.intro Tryd.underlying24 Tryd.underlying27))) (And.intro (And.intro Tryd.underlying29 (And.intro Tryd.underlying34 Tryd.underlying38)) (And.intro Tryd.underlying43 (And.intro Tryd.underlying79 Tryd.underlying81))))))
theorem Y1OuZC {G R : Prop} (r : R) (h : R → G := by intro r; first | (apply WP.region; exact rvc_sound _ _ (Sm.out r)) | exact WP.drawK rfl mixed (by decide +kernel) (Sm.out r) | (apply WP.block; exact r) | (apply WP.skip; exact Yq r) | (apply WP.exit; exact Yq r) | (apply WP.ret; exact Sm.out r) | exact WP.cond rfl (fun _ => r) (fun hg => absurd hg (by decide)) | exact WP.cond rfl (fun hg => absurd hg (by decide)) (fun _ => r) | exact Rt.mk (And.intro (fun _ => Sm.out r) fun hg => absurd hg (by decide)) | exact Rt.mk (And.intro (fun hg => absurd hg (by decide)) fun _ => Sm.out r)) : G := h r
theorem YzOuZC {G R : Prop} (r : R) (h : R → G := by intro r; first | (apply ExG.no; exact Sm.out r) | (apply Or.inl; apply ExG.no; exact Sm.out r) | exact Or.inl (And.intro (fun hg => absurd hg (by decide)) (ExG.no (Sm.out r)))) : G := h r
theorem YsOuZC0 {P Q : Prop} (q : Q) (h : P = Q := by (try (conv => lhs; simp -dsimp only [ZK, rvc, capA, appA, litL, mkfv, drawF, headN, pureH, stp, dvc, calleeOf, gcall, pev, eff, newB, okd, og, ogs, ogo, ogp, slv, bltv, opd, litv, strip, one, both, putE, St.put, look, gdOf, gdv, picka, pickv, pickw, binv, bini, bins, binb, binp, binq, isSlT, bina, shp, eqCells, unv, convv, nilv, faddv, addp, idxav, idxp, load1, load1m, loadn, loadnm, loadv, hget, hset, hrep, hdel, slicev, slice3v, bnd, shift1, lenv, capv, IntKind.bits, extractv, fieldv, indexv, min2v, max2v, mkiv, tasv, tasz, cellsA, fillA, buildv, stC, oneC, rowMB, intsA, plN, appE, appZ, appC, appS, srcB, appNZ, appNC, VwL, srcC, srcZ, srcM, isBoolT, isPtrT, isSliceT, uOk, Value.oneCell', Nat.reducePow, Int.reducePow, Nat.reduceAdd, Nat.reduceMul, Nat.reduceSub, Nat.reduceLT, Nat.reduceLeDiff, Nat.reduceEqDiff, Nat.reduceBEq, Nat.reduceDiv, Nat.reduceMod, ↓reduceIte, reduceCtorEq, Int.reduceToNat, Int.reduceLT, Int.reduceLE, TFOuZC, SeqQ, BlkQ, LoopQ, BodyQ, hin, FA.out, FR.out])) <;> exact rfl) : P := h.mpr q
def oV : List Ky → Nat → Nat → AV
  | [], _, _ => nsl
  | k :: r, x, c => ms x 0 (r.length + 1) c
def oH : List Ky → Nat → Nat → Hp
  | [], _, _ => []
  | k :: r, x, c => [(x, .cells (kcs (k :: r)) (c * 5) 29)]
noncomputable def snR (n : Nt) (b : Bx) (now : Int) (hs : List Ky) : AV := .tup [bxv (snB n b now hs), .sl (snK n b now hs).length (kcs (snK n b now hs))]
noncomputable def snF (n : Nt) (now : Int) (hs : List Ky) (e : En) : En := if gsB n now hs e then snE n now e else e
def dS (f : En → En) (l : List En) (i : Nat) : List En := (l.take i).map f ++ l.drop i
theorem dS_zero (f : En → En) (l : List En) : dS f l 0 = l := by simp [dS]
theorem dS_all (f : En → En) (l : List En) {n : Nat} (h : l.length ≤ n) : dS f l n = l.map f := by
  unfold dS; rw [List.take_of_length_le h, List.drop_eq_nil_of_le h, List.append_nil]
theorem dS_len (f : En → En) (l : List En) (i : Nat) : (dS f l i).length = l.length := by
  unfold dS; simp; omega
theorem dS_get (f : En → En) (l : List En) (i : Nat) (h : i < l.length) (h2 : i < (dS f l i).length) : (dS f l i)[i] = l[i] := by
  have e : (dS f l i)[i]? = l[i]? := by
    unfold dS
    rw [List.getElem?_append_right (by simp; omega)]
    simp [Nat.min_eq_left (Nat.le_of_lt h)]
  rw [List.getElem?_eq_getElem h2, List.getElem?_eq_getElem h] at e
  exact Option.some.inj e
theorem dS_succ (f : En → En) (l : List En) (i : Nat) (h : i < l.length) : (dS f l i).set i (f l[i]) = dS f l (i + 1) := by
  unfold dS
  have e : ((l.take i).map f).length = i := by simp; omega
  rw [List.set_append_right i _ (by omega), e, Nat.sub_self, List.drop_eq_getElem_cons h, List.set_cons_zero, List.take_succ_eq_append_getElem h]
  simp only [List.map_append, List.map_cons, List.map_nil, List.append_assoc, List.cons_append, List.nil_append]
theorem dS_skip (f : En → En) (l : List En) (i : Nat) (h : i < l.length) (hf : f l[i] = l[i]) : dS f l i = dS f l (i + 1) := by
  rw [← dS_succ f l i h, hf]
  have h2 : i < (dS f l i).length := by rw [dS_len]; exact h
  have := dS_get f l i h h2
  rw [← this, List.set_getElem_self]
theorem ecs_set : ∀ (D : List En) (i : Nat) (h : i < D.length) (t m : Int), ((ecs D).set (i * 9 + 7) (iv .i64 t)).set (i * 9 + 6) (iv .i64 m) = ecs (D.set i ⟨D[i].k, D[i].b, m, t, D[i].a⟩)
  | e :: r, 0, _, t, m => rfl
  | e :: r, i + 1, h, t, m => by
    have := ecs_set r i (by simpa using h) t m
    rw [show (i + 1) * 9 + 7 = (i * 9 + 7) + 9 by omega, show (i + 1) * 9 + 6 = (i * 9 + 6) + 9 by omega]
    simpa [ecs] using this
theorem set_getD_ne {C : List AV} {a b : Nat} {v : AV} (h : a ≠ b) : (C.set a v).getD b .any = C.getD b .any := by
  rw [List.getD_eq_getElem?_getD, List.getElem?_set_ne h, List.getD_eq_getElem?_getD]
theorem set_getD_eq {C : List AV} {a : Nat} {v : AV} (h : a < C.length) : (C.set a v).getD a .any = v := by
  rw [List.getD_eq_getElem?_getD, List.getElem?_set_self h]; rfl
theorem delay_i (f m t : Int) (hf : 1 ≤ f) (hm : f ≤ m) (ht : 1 ≤ t) (hm2 : m ≤ 9223372036854775807) (ht2 : t ≤ 9223372036854775807) :
    ACt Tryd.prog 56 [iv .i64 f, iv .i64 m, iv .i64 t] [] (Fn (.tup [iv .i64 ((waitN f.toNat m.toNat (t.toNat - 1) : Nat) : Int), iv .i64 0])) := by
  obtain ⟨f, rfl⟩ := Int.eq_ofNat_of_zero_le (show 0 ≤ f by omega)
  obtain ⟨m, rfl⟩ := Int.eq_ofNat_of_zero_le (show 0 ≤ m by omega)
  obtain ⟨t, rfl⟩ := Int.eq_ofNat_of_zero_le (show 0 ≤ t by omega)
  simp only [Int.toNat_natCast]
  exact delay_ct f m t (by omega) (by omega) (by omega) (by omega) (by omega)
def tr1 (t : Int) : Int := if t < 1000000 then t + 1 else t
theorem vw_bx2 {H : Hp} {x n c s ty : Nat} {C : List AV} {d : Int} (hg : hget H x = some (.cells C s ty)) (h2 : n ≤ c) (h3 : c ≤ 9223372036854775807) : Vw H (.agg [ms x 0 n c, iv .u64 d]) (.agg [.sl n C, iv .u64 d]) := by
  have hC : ∀ j (hj : j < C.length), Vw H (C.getD (0 + j) .any) C[j] := fun j hj => by
    have e : C.getD (0 + j) .any = C[j] := by rw [Nat.zero_add, List.getD_eq_getElem?_getD, List.getElem?_eq_getElem hj]; rfl
    rw [e]; exact .same _
  exact .agg rfl fun i hi => by
    match i, hi with
    | 0, _ => exact .rowc hg (by omega) h2 (by rw [maxLen_eq]; omega) hC
    | 1, _ => exact .same _
theorem vw_sn0 {x n c s ty : Nat} {C : List AV} {d : Int} {R : AV} (hR : R = .tup [.agg [.sl n C, iv .u64 d], .sl 0 []]) (h2 : n ≤ c) (h3 : c ≤ 9223372036854775807) : Vw [(x, .cells C s ty)] (.tup [.agg [ms x 0 n c, iv .u64 d], nsl]) R := by
  subst hR
  exact .tup rfl fun i hi => by
    match i, hi with
    | 0, _ => exact vw_bx2 (C := C) (s := s) (ty := ty) (by simp [hget]) h2 h3
    | 1, _ => exact .nils
theorem vw_sn1 {x n c s ty q : Nat} {C K : List AV} {d : Int} {R : AV} (hR : R = .tup [.agg [.sl n C, iv .u64 d], .sl q K]) (h2 : n ≤ c) (h3 : c ≤ 9223372036854775807) : Vw [(x, .cells C s ty)] (.tup [.agg [ms x 0 n c, iv .u64 d], .sl q K]) R := by
  subst hR
  exact .tup rfl fun i hi => by
    match i, hi with
    | 0, _ => exact vw_bx2 (C := C) (s := s) (ty := ty) (by simp [hget]) h2 h3
    | 1, _ => exact .same _
structure SnG where
  i : Nat
  D : List En
  Q : List Ky
  x : Nat
  c : Nat
set_option maxHeartbeats 4000000 in
theorem send_row {X : AV} (nt : Nt) (b : Bx) (now : Int) (hs : List Ky) (n m : Nat) (hn : b.l.length = n) (hm : hs.length = m) (hl : n ≤ 100000) (hml : m ≤ 100000) (hz : ∀ e ∈ b.l, Kz e.k) (hX : (∃ m D, X = .sl m D) ∨ (∃ ad cap, X = .lit (.slice (some ad) 0 cap)))
    (hC : ACt Tryd.prog 76 [X] [] (fun r F' => ∃ x c : Nat, (n ≤ c ∧ c ≤ 9223372036854775807) ∧ r = ms x 0 n c ∧ F' = (x, .cells (ecs b.l) (c * 9) 38) :: [])) :
    ACt Tryd.prog 25 [ntv nt, .agg [X, iv .u64 b.d], iv .i64 now, .sl m (kcs hs)] [] (fun r F' => Vw F' r (snR nt b now hs)) := by
  have cO := own_row b.d hX hC
  have cN := notify_ct nt
  have cR := bright_ct b n hn hl hz
  have cT := tick_ct now
  obtain ⟨l, d⟩ := b
  simp only at hn hz cO cR ⊢
  have hCl := ecs_len l
  rw [hn] at hCl
  have hA1 : (ntB nt && bxB ⟨l, d⟩ && tkB now) = false → snR nt ⟨l, d⟩ now hs = .tup [.agg [.sl n (ecs l), iv .u64 d], .sl 0 []] := fun h => by
    unfold snR snB snK; rw [h, ← hn]; rfl
  have hA2 : (ntB nt && bxB ⟨l, d⟩ && tkB now) = true → snR nt ⟨l, d⟩ now hs = .tup [.agg [.sl n (ecs (dS (snF nt now hs) l n)), iv .u64 d], .sl ((l.filter fun e => gsB nt now hs e).map (·.k)).length (kcs ((l.filter fun e => gsB nt now hs e).map (·.k)))] := fun h => by
    unfold snR snB snK; rw [h, if_pos rfl, if_pos rfl, dS_all _ _ (by omega)]
    show AV.tup [bxv ⟨l.map (snF nt now hs), d⟩, _] = _
    unfold bxv
    simp only [List.length_map, hn]
  obtain ⟨R, hR⟩ : ∃ R, R = snR nt ⟨l, d⟩ now hs := ⟨_, rfl⟩
  rw [← hR] at hA1 hA2 ⊢
  obtain ⟨C, hC'⟩ : ∃ C, C = ecs l := ⟨_, rfl⟩
  rw [← hC'] at cO cR hA1 hCl
  obtain ⟨p1, h1⟩ : ∃ p, ntB nt = p := ⟨_, rfl⟩
  obtain ⟨p2, h2⟩ : ∃ p, bxB ⟨l, d⟩ = p := ⟨_, rfl⟩
  obtain ⟨p4, h4⟩ : ∃ p, tkB now = p := ⟨_, rfl⟩
  rw [h1] at cN hA1 hA2
  rw [h2] at cR hA1 hA2
  rw [h4] at cT hA1 hA2
  have cHas := fun k => contains_ct hs k m hm hml
  obtain ⟨K1, hK1⟩ : ∃ K, K = kcs hs := ⟨_, rfl⟩
  rw [← hK1]
  simp only [← hK1] at cHas
  obtain ⟨ro, re, fi, ca, rp⟩ := nt
  refine ACt.intro Tryd.func25 rfl (by kernel_rfl) (by simp [Tryd.ntmps25]) (fun cx => ?_)
  simp only [argE, Tryd.ntmps25, Tryd.results25]
  first | (have FRx := FR; clear FRx) | have FR := fr0S
  have FA := Sm.mk (TFOuZC)
  repeat' first | (apply Sm.mk; refine Ys ?_) | refine WP.seq fun K hK => ?_ | (apply Ob.mk; exact Yo) | refine And.intro (Ob.out ?_) ?_ | ((fail_if_success (show WP _ _ _ (.region 2 _ _) _ _)); refine Y1OuZC ?_) | refine CallV.newC (cO) (List.Perm.refl _) (fun _ _ => rfl) (Sm.out ?_) | refine YzOuZC ?_ | (refine WP.cond rfl (fun hc => ?_) (fun hc => ?_) <;> (try simp only [ZC, reduceCtorEq, ZD] at hc) <;> (try exact absurd hc (by decide)) <;> (try (exfalso; omega))) | refine Rt.mk (And.intro (fun hg => Sm.out ?_) fun hg => Sm.out ?_) | (refine Nu.mk ?_; first | (fail_if_success have := nb1); intro nb1 | (fail_if_success have := nb2); intro nb2 | (fail_if_success have := nb3); intro nb3 | (fail_if_success have := nb4); intro nb4 | (fail_if_success have := nb5); intro nb5 | (fail_if_success have := nb6); intro nb6 | (fail_if_success have := nb7); intro nb7 | (fail_if_success have := nb8); intro nb8 | (fail_if_success have := nb9); intro nb9 | (fail_if_success have := nb10); intro nb10 | (fail_if_success have := nb11); intro nb11 | (fail_if_success have := nb12); intro nb12 | (fail_if_success have := nb13); intro nb13 | (fail_if_success have := nb14); intro nb14 | intro nbz) | (apply Yfr; refine Yf FR fun hFRb FR => ?_) | refine Two.mk ?_ ?_ | (apply Yxc; exact Yx) | refine Cs.mk fun hcs => Sm.out ?_ | go_step | omega | (simp only [maxLen_eq]; omega) | exact trivial
  have hb := FR.out.1.1
  have cR2 : ACt Tryd.prog 16 [.agg [ms nb4 0 n nb5, iv .u64 d]] [(nb4, .cells C (nb5 * 9) 38)] (fun r F' => r = bv p2 ∧ F' = [(nb4, .cells C (nb5 * 9) 38)]) := cR.view rfl ⟨vw_box hb.1 hb.2, trivial⟩
  clear cO cR
  first | (have FRx := FR; clear FRx) | have FR := fr0S
  have FA := Sm.mk (And.intro TFOuZC hb)
  repeat' first | (apply Sm.mk; refine Ys ?_) | refine WP.seq fun K hK => ?_ | (apply Ob.mk; exact Yo) | refine And.intro (Ob.out ?_) ?_ | refine Y1OuZC ?_ | refine Yc (c := cN) (r := ?_) | refine Yl1 (c := cR2) (r := ?_) | refine Yc (c := cT) (r := ?_) | refine YzOuZC ?_ | (refine WP.cond rfl (fun hc => ?_) (fun hc => ?_) <;> (try simp only [ZC, reduceCtorEq, ZD] at hc) <;> (try exact absurd hc (by decide)) <;> (try (exfalso; omega))) | refine Rt.mk (And.intro (fun hg => Sm.out ?_) fun hg => Sm.out ?_) | (refine Nu.mk ?_; first | (fail_if_success have := nb1); intro nb1 | (fail_if_success have := nb2); intro nb2 | (fail_if_success have := nb3); intro nb3 | (fail_if_success have := nb4); intro nb4 | (fail_if_success have := nb5); intro nb5 | (fail_if_success have := nb6); intro nb6 | (fail_if_success have := nb7); intro nb7 | (fail_if_success have := nb8); intro nb8 | (fail_if_success have := nb9); intro nb9 | (fail_if_success have := nb10); intro nb10 | (fail_if_success have := nb11); intro nb11 | (fail_if_success have := nb12); intro nb12 | (fail_if_success have := nb13); intro nb13 | (fail_if_success have := nb14); intro nb14 | intro nbz) | (apply Yfr; refine Yf FR fun hFRb FR => ?_) | refine Two.mk ?_ ?_ | (apply Yxc; exact Yx) | refine Cs.mk fun hcs => Sm.out ?_ | go_step | omega | (simp only [maxLen_eq]; omega) | exact trivial
  · have hp : (p1 && p2 && p4) = false := by revert hc; cases p1 <;> cases p2 <;> cases p4 <;> simp
    (refine OutQ.drop _ _ (perm1 (b := nb4) (by simp only [hget, hdel, ↓reduceIte, if_true, if_false, FR.out]; first | done | rfl)) (by simp only [resv, ZK, look, loadv, loadn, loadnm, load1, load1m, hget, ↓reduceIte, Nat.reduceEqDiff, Nat.reduceAdd, Nat.reduceMul, Nat.reduceLeDiff, Nat.reduceLT, reduceCtorEq, TFOuZC, FR.out]) ?_; simp only [resv, resA, ZK, look, loadv, loadn, loadnm, load1, load1m, hget, ↓reduceIte, Nat.reduceEqDiff, Nat.reduceAdd, Nat.reduceMul, Nat.reduceLeDiff, Nat.reduceLT, reduceCtorEq, TFOuZC, FR.out]; exact vw_sn0 (hA1 hp) hb.1 hb.2)
  · have hne := FR.out
    have hp : p1 = true ∧ p2 = true ∧ p4 = true := by revert hc; cases p1 <;> cases p2 <;> cases p4 <;> simp
    have hA := hA2 (by rw [hp.1, hp.2.1, hp.2.2]; rfl)
    obtain ⟨rfl, rfl, rfl⟩ := hp
    have hbd : 1 ≤ fi ∧ fi ≤ ca ∧ ca ≤ 604800 ∧ 0 ≤ rp ∧ rp ≤ 2592000 := by
      unfold ntB at h1
      have := of_decide_eq_true h1
      simp only at this; omega
    have hnow : 0 ≤ now ∧ now ≤ 253402300799 := of_decide_eq_true h4
    have hes : ∀ e ∈ l, 0 ≤ e.t ∧ e.t ≤ 1000000 := fun e he => by
      have h := ((bx_iff _).1 h2).2.1 e he
      unfold erB at h
      simp only [Bool.and_eq_true, decide_eq_true_eq] at h
      omega
    obtain ⟨F, hF⟩ : ∃ F, F = snF ⟨ro, re, fi, ca, rp⟩ now hs := ⟨_, rfl⟩
    obtain ⟨G, hG⟩ : ∃ G, G = fun e => gsB ⟨ro, re, fi, ca, rp⟩ now hs e := ⟨_, rfl⟩
    rw [← hF, ← hG] at hA
    have hb4 : nb4 < nb4 + nb3 + nb2 + nb1 + 1 ∧ nb3 < nb4 + nb3 + nb2 + nb1 + 1 ∧ nb2 < nb4 + nb3 + nb2 + nb1 + 1 ∧ nb1 < nb4 + nb3 + nb2 + nb1 + 1 := by omega
    obtain ⟨x0, hx0⟩ : ∃ x, x = nb4 + nb3 + nb2 + nb1 + 1 := ⟨_, rfl⟩
    rw [← hx0] at hb4
    have dx1 : x0 ≠ nb1 ∧ nb1 ≠ x0 := by omega
    have dx2 : x0 ≠ nb2 ∧ nb2 ≠ x0 := by omega
    have dx3 : x0 ≠ nb3 ∧ nb3 ≠ x0 := by omega
    have dx4 : x0 ≠ nb4 ∧ nb4 ≠ x0 := by omega
    have hd0 := dS_zero F l
    have he0 : kcs [] = [] := rfl
    refine WP.loop (Γ := SnG) (fun g => ⟨[(33, iv .i64 (g.i : Int)), (32, iv .i64 (n : Int)), (10, oV g.Q g.x g.c), (8, pt nb3 0), (5, pt nb2 0), (4, pt nb1 0), (2, iv .i64 now), (3, .sl m K1)], oH g.Q g.x g.c ++ [(nb4, .cells (ecs g.D) (nb5 * 9) 38), (nb3, .cells [.lit (.slice none 0 0), iv .u64 0] 2 27), (nb2, .cells [ms nb4 0 n nb5, iv .u64 d] 2 27), (nb1, .cells [iv .i64 ro, iv .i64 re, iv .i64 fi, iv .i64 ca, iv .i64 rp] 5 23)]⟩)
      (fun g => (g.i ≤ n ∧ g.Q.length ≤ g.i ∧ g.Q.length ≤ g.c ∧ g.c ≤ 9223372036854775807) ∧ g.D = dS F l g.i ∧ g.Q = ((l.take g.i).filter G).map (·.k) ∧ (g.x ≠ nb1 ∧ nb1 ≠ g.x) ∧ (g.x ≠ nb2 ∧ nb2 ≠ g.x) ∧ (g.x ≠ nb3 ∧ nb3 ≠ g.x) ∧ (g.x ≠ nb4 ∧ nb4 ≠ g.x)) (fun g => n - g.i) ⟨0, l, [], x0, 0⟩
      ⟨⟨Nat.zero_le _, Nat.le_refl _, Nat.le_refl _, by simp⟩, hd0.symm, by simp, dx1, dx2, dx3, dx4⟩ (Sub.pick (by simp [pickB, hget, hdel, FR.out, hne, hC', oV, oH, List.nil_append]) (by simp [look, hne, hC', oV, oH, List.nil_append])) ?_
    clear hb4 hx0 hd0 dx1 dx2 dx3 dx4
    intro ⟨i, D, Q, x, c⟩ ⟨⟨hi, hq1, hq2, hq3⟩, hD, hQ, x1, x2, x3, x4⟩
    simp only at hi hq1 hq2 hq3 hD hQ x1 x2 x3 x4 ⊢
    have hDl := ecs_len D
    rw [hD, dS_len, hn, ← hD] at hDl
    have FR : Sm (¬ ((1 : Nat) = 0)) := Sm.mk Nat.one_ne_zero
    by_cases hin : i < n
    · have ki : decide ((i : Int) < (n : Int)) = true := decide_eq_true (by omega)
      have s1 : IntKind.i64.wrap ((i : Int) + 1) = ((i + 1 : Nat) : Int) := by rw [wrap_i64 (by omega) (by omega)]; omega
      have hiD : i < D.length := by rw [hD, dS_len]; omega
      have hdr := ecs_drop D i hiD
      have hst := ecs_set D i hiD
      have hgt : D[i] = l[i]'(by omega) := by simp only [hD]; exact dS_get F l i (by omega) _
      have hsu := dS_succ F l i (by omega)
      have hsk := dS_skip F l i (by omega)
      have htk := List.take_succ_eq_append_getElem (show i < l.length by omega)
      have hvm : l[i]'(by omega) ∈ l := List.getElem_mem _
      rw [hgt] at hdr
      simp only [hgt] at hst
      rw [← hD] at hsu hsk
      obtain ⟨v, hv⟩ : ∃ v, v = l[i]'(by omega) := ⟨_, rfl⟩
      rw [← hv] at hdr hsu hsk htk hvm
      simp only [← hv] at hst
      have het := hes v hvm
      have hFv : F v = if G v then snE ⟨ro, re, fi, ca, rp⟩ now v else v := by rw [hF, hG]; rfl
      have hGv : G v = (dueB ⟨ro, re, fi, ca, rp⟩ v now && !hasB hs v.k) := by rw [hG]; rfl
      have cF := due_ct ⟨ro, re, fi, ca, rp⟩ v now
      have cH := cHas v.k
      obtain ⟨u, hu⟩ : ∃ u, dueB ⟨ro, re, fi, ca, rp⟩ v now = u := ⟨_, rfl⟩
      obtain ⟨w, hw⟩ : ∃ w, hasB hs v.k = w := ⟨_, rfl⟩
      rw [hu] at cF hGv
      rw [hw] at cH hGv
      have hQn : G v = false → Q = ((l.take (i + 1)).filter G).map (·.k) := fun h => by rw [htk, List.filter_append, hQ]; simp [h]
      have hQy : G v = true → Q ++ [v.k] = ((l.take (i + 1)).filter G).map (·.k) := fun h => by rw [htk, List.filter_append, hQ]; simp [h]
      have hDn : G v = false → D = dS F l (i + 1) := fun h => hsk (by rw [hFv, h]; rfl)
      have hDy : G v = true → D.set i (snE ⟨ro, re, fi, ca, rp⟩ now v) = dS F l (i + 1) := fun h => by rw [← hsu, hFv, h]; rfl
      have hE : snE ⟨ro, re, fi, ca, rp⟩ now v = ⟨v.k, v.b, now + wtN ⟨ro, re, fi, ca, rp⟩ v, tr1 v.t, v.a⟩ := rfl
      have hW1 : v.a = true → wtN ⟨ro, re, fi, ca, rp⟩ v = rp := fun h => by unfold wtN; rw [if_pos h]
      have hW2 : v.a = false → wtN ⟨ro, re, fi, ca, rp⟩ v = ((waitN fi.toNat ca.toNat ((tr1 v.t).toNat - 1) : Nat) : Int) := fun h => by unfold wtN; rw [if_neg (by rw [h]; decide)]; rfl
      have ht1 : 1 ≤ tr1 v.t ∧ tr1 v.t ≤ 1000000 := by unfold tr1; split <;> omega
      have hmn : (if 1000000 < IntKind.i64.wrap (v.t + 1) then 1000000 else IntKind.i64.wrap (v.t + 1)) = tr1 v.t := by
        rw [wrap_i64 (by omega) (by omega)]; unfold tr1; split <;> split <;> omega
      obtain ⟨T, hT⟩ : ∃ T, T = tr1 v.t := ⟨_, rfl⟩
      rw [← hT] at hE hW2 ht1 hmn
      have cD := delay_i fi ca T (by omega) (by omega) (by omega) (by omega) (by omega)
      have hwl := waitN_le fi.toNat ca.toNat (T.toNat - 1)
      obtain ⟨wt, hwt⟩ : ∃ wt, wt = waitN fi.toNat ca.toNat (T.toNat - 1) := ⟨_, rfl⟩
      rw [← hwt] at hW2 cD hwl
      have w1 : IntKind.i64.wrap (now + rp) = now + rp := wrap_i64 (by omega) (by omega)
      have w2 : IntKind.i64.wrap (now + (wt : Int)) = now + (wt : Int) := wrap_i64 (by omega) (by omega)
      have hS1 : v.a = true → G v = true → ((ecs D).set (i * 9 + 7) (iv .i64 T)).set (i * 9 + 6) (iv .i64 (now + rp)) = ecs (D.set i (snE ⟨ro, re, fi, ca, rp⟩ now v)) := fun h _ => by rw [hst, hE, hW1 h]
      have hS2 : v.a = false → G v = true → ((ecs D).set (i * 9 + 7) (iv .i64 T)).set (i * 9 + 6) (iv .i64 (now + (wt : Int))) = ecs (D.set i (snE ⟨ro, re, fi, ca, rp⟩ now v)) := fun h _ => by rw [hst, hE, hW2 h]
      have hsn : ∃ E, E = snE ⟨ro, re, fi, ca, rp⟩ now v := ⟨_, rfl⟩
      obtain ⟨E, hE'⟩ := hsn
      rw [← hE'] at hDy hS1 hS2
      have g7 : ∀ y, ((ecs D).set (i * 9 + 7) y).getD (i * 9 + 7) .any = y := fun y => set_getD_eq (by omega)
      have g8 : ∀ y, ((ecs D).set (i * 9 + 7) y).getD (i * 9 + 8) .any = bv v.a := fun y => by rw [set_getD_ne (by omega)]; exact drop_getD hdr 8
      have gt : (ecs D).getD (i * 9 + 7) .any = iv .i64 v.t := drop_getD hdr 7
      clear hE hE' hW1 hW2 hst hsu hsk htk hvm hFv hT hwt hgt
      have hGt : u = true → w = false → G v = true := fun h1 h2 => by rw [hGv, h1, h2]; rfl
      have hGf : (u = false ∨ w = true) → G v = false := fun h => by rw [hGv]; rcases h with h | h <;> rw [h] <;> simp
      obtain ⟨gv, hgv⟩ : ∃ gv, G v = gv := ⟨_, rfl⟩
      rw [hgv] at hQn hQy hDn hDy hS1 hS2 hGt hGf
      clear hGv hgv hv hu hw
      obtain ⟨⟨vg, vr, vp, ve, vs⟩, eb, en, et, ea⟩ := v
      simp only at hdr cF cH hQy hmn hS1 hS2 g8 gt het
      obtain ⟨C2, hC2⟩ : ∃ C2, C2 = ecs D := ⟨_, rfl⟩
      rw [← hC2] at hDl hdr gt
      simp only [← hC2] at hS1 hS2 g7 g8
      have q1 : i * 9 + 9 ≤ C2.length := by omega
      have hsl : ∀ (a : Nat) (y : AV), (C2.set a y).length = C2.length := fun a y => List.length_set
      rw [← hC2]
      have hQb : kcs Q ++ [.lit (.string vg), .lit (.string vr), bv vp, iv .u64 ve, bv vs] = kcs (Q ++ [(⟨vg, vr, vp, ve, vs⟩ : Ky)]) := (kcs_app Q [⟨vg, vr, vp, ve, vs⟩]).symm
      have hQl : (Q ++ [(⟨vg, vr, vp, ve, vs⟩ : Ky)]).length = Q.length + 1 := by simp
      cases Q with
      | nil =>
        simp only [oV, oH, List.nil_append]
        first | (have FRx := FR; clear FRx) | have FR := fr0S
        have FA := Sm.mk (And.intro TFOuZC (And.intro ki (And.intro hdr (And.intro q1 (And.intro s1 (And.intro x1 (And.intro x2 (And.intro x3 (And.intro x4 (And.intro g7 (And.intro g8 (And.intro gt (And.intro hmn (And.intro w1 (And.intro w2 (And.intro hsl (And.intro hDl (And.intro hne hb))))))))))))))))))
        repeat' first | (apply Sm.mk; refine YsOuZC0 ?_) | refine WP.seq fun K hK => ?_ | (apply Ob.mk; exact Yo) | refine And.intro (Ob.out ?_) ?_ | refine Y1OuZC ?_ | refine Yc (c := cF) (r := ?_) | refine Yc (c := cH) (r := ?_) | refine Yc (c := cD) (r := ?_) | refine YzOuZC ?_ | (refine WP.cond rfl (fun hc => ?_) (fun hc => ?_) <;> (try simp only [ZC, reduceCtorEq, ZD] at hc) <;> (try exact absurd hc (by decide)) <;> (try (exfalso; omega))) | refine Rt.mk (And.intro (fun hg => Sm.out ?_) fun hg => Sm.out ?_) | (refine Nu.mk ?_; first | (fail_if_success have := nb1); intro nb1 | (fail_if_success have := nb2); intro nb2 | (fail_if_success have := nb3); intro nb3 | (fail_if_success have := nb4); intro nb4 | (fail_if_success have := nb5); intro nb5 | (fail_if_success have := nb6); intro nb6 | (fail_if_success have := nb7); intro nb7 | (fail_if_success have := nb8); intro nb8 | (fail_if_success have := nb9); intro nb9 | (fail_if_success have := nb10); intro nb10 | (fail_if_success have := nb11); intro nb11 | (fail_if_success have := nb12); intro nb12 | (fail_if_success have := nb13); intro nb13 | (fail_if_success have := nb14); intro nb14 | intro nbz) | (apply Yfr; refine Yf FR fun hFRb FR => ?_) | refine Two.mk ?_ ?_ | (apply Yxc; exact Yx) | refine Cs.mk fun hcs => Sm.out ?_ | go_step | omega | (simp only [maxLen_eq]; omega) | exact trivial
        · exact ⟨⟨i + 1, D, [], x, c⟩, ⟨⟨by simp only; omega, by simp, by simp, hq3⟩, hDn (hGf hc), hQn (hGf hc), x1, x2, x3, x4⟩, by simp only; omega, (Sub.pick (by simp [pickB, hget, hdel, FR.out, x1, x2, x3, x4, hne, hC2, oV, oH, List.nil_append]) (by simp [look, x1, x2, x3, x4, hne, hC2, oV, oH, List.nil_append]))⟩
        · have hcA : u = true ∧ w = false := by assumption
          have hG := hGt hcA.1 hcA.2
          have hh := hS2 hc hG
          have hkc : kcs [(⟨vg, vr, vp, ve, vs⟩ : Ky)] = [.lit (.string vg), .lit (.string vr), bv vp, iv .u64 ve, bv vs] := rfl
          exact ⟨⟨i + 1, D.set i E, [⟨vg, vr, vp, ve, vs⟩], nb7, nb8⟩, ⟨⟨by simp only; omega, by simp only [List.length_cons, List.length_nil]; omega, by simp only [List.length_cons, List.length_nil]; omega, by simp only; omega⟩, hDy hG, hQy hG, by simp [FR.out], by simp [FR.out], by simp [FR.out], by simp [FR.out]⟩, by simp only; omega, (Sub.pick (by simp [pickB, hget, hdel, FR.out, x1, x2, x3, x4, hne, hh, hkc, oV, oH, List.nil_append, List.length_nil, Nat.zero_add]) (by simp [look, x1, x2, x3, x4, hne, hh, hkc, oV, oH, List.nil_append, List.length_nil, Nat.zero_add]))⟩
        · have hcA : u = true ∧ w = false := by assumption
          have hG := hGt hcA.1 hcA.2
          have hh := hS1 hc hG
          have hkc : kcs [(⟨vg, vr, vp, ve, vs⟩ : Ky)] = [.lit (.string vg), .lit (.string vr), bv vp, iv .u64 ve, bv vs] := rfl
          exact ⟨⟨i + 1, D.set i E, [⟨vg, vr, vp, ve, vs⟩], nb7, nb8⟩, ⟨⟨by simp only; omega, by simp only [List.length_cons, List.length_nil]; omega, by simp only [List.length_cons, List.length_nil]; omega, by simp only; omega⟩, hDy hG, hQy hG, by simp [FR.out], by simp [FR.out], by simp [FR.out], by simp [FR.out]⟩, by simp only; omega, (Sub.pick (by simp [pickB, hget, hdel, FR.out, x1, x2, x3, x4, hne, hh, hkc, oV, oH, List.nil_append, List.length_nil, Nat.zero_add]) (by simp [look, x1, x2, x3, x4, hne, hh, hkc, oV, oH, List.nil_append, List.length_nil, Nat.zero_add]))⟩
      | cons k r =>
        simp only [oV, oH, List.cons_append, List.nil_append]
        obtain ⟨K2, hK2⟩ : ∃ q, q = kcs (k :: r) := ⟨_, rfl⟩
        have hKl := kcs_len (k :: r)
        have hKo := kcs_one (k :: r)
        rw [← hK2] at hQb hKl hKo ⊢
        rw [List.length_cons] at hKl
        have hq5 : r.length + 1 ≤ i := by simpa using hq1
        have hq6 : r.length + 1 ≤ c := by simpa using hq2
        first | (have FRx := FR; clear FRx) | have FR := fr0S
        have FA := Sm.mk (And.intro TFOuZC (And.intro ki (And.intro hdr (And.intro q1 (And.intro s1 (And.intro x1 (And.intro x2 (And.intro x3 (And.intro x4 (And.intro g7 (And.intro g8 (And.intro gt (And.intro hmn (And.intro w1 (And.intro w2 (And.intro hsl (And.intro hDl (And.intro hne (And.intro hb (And.intro hKl hKo))))))))))))))))))))
        repeat' first | (apply Sm.mk; refine YsOuZC0 ?_) | refine WP.seq fun K hK => ?_ | (apply Ob.mk; exact Yo) | refine And.intro (Ob.out ?_) ?_ | refine Y1OuZC ?_ | refine Yc (c := cF) (r := ?_) | refine Yc (c := cH) (r := ?_) | refine Yc (c := cD) (r := ?_) | refine YzOuZC ?_ | (refine WP.cond rfl (fun hc => ?_) (fun hc => ?_) <;> (try simp only [ZC, reduceCtorEq, ZD] at hc) <;> (try exact absurd hc (by decide)) <;> (try (exfalso; omega))) | refine Rt.mk (And.intro (fun hg => Sm.out ?_) fun hg => Sm.out ?_) | (refine Nu.mk ?_; first | (fail_if_success have := nb1); intro nb1 | (fail_if_success have := nb2); intro nb2 | (fail_if_success have := nb3); intro nb3 | (fail_if_success have := nb4); intro nb4 | (fail_if_success have := nb5); intro nb5 | (fail_if_success have := nb6); intro nb6 | (fail_if_success have := nb7); intro nb7 | (fail_if_success have := nb8); intro nb8 | (fail_if_success have := nb9); intro nb9 | (fail_if_success have := nb10); intro nb10 | (fail_if_success have := nb11); intro nb11 | (fail_if_success have := nb12); intro nb12 | (fail_if_success have := nb13); intro nb13 | (fail_if_success have := nb14); intro nb14 | intro nbz) | (apply Yfr; refine Yf FR fun hFRb FR => ?_) | refine Two.mk ?_ ?_ | (apply Yxc; exact Yx) | refine Cs.mk fun hcs => Sm.out ?_ | go_step | omega | (simp only [maxLen_eq]; omega) | exact trivial
        · exact ⟨⟨i + 1, D, k :: r, x, c⟩, ⟨⟨by simp only; omega, by simp only; omega, hq2, hq3⟩, hDn (hGf hc), hQn (hGf hc), x1, x2, x3, x4⟩, by simp only; omega, (Sub.pick (by simp [pickB, hget, hdel, FR.out, x1, x2, x3, x4, hne, hC2, hK2, oV, oH, List.cons_append, List.nil_append]) (by simp [look, x1, x2, x3, x4, hne, hC2, hK2, oV, oH, List.cons_append, List.nil_append]))⟩
        · have hcA : u = true ∧ w = false := by assumption
          have hG := hGt hcA.1 hcA.2
          have hh := hS2 hc hG
          have hrl : (r ++ [(⟨vg, vr, vp, ve, vs⟩ : Ky)]).length = r.length + 1 := by simp
          have hQc : K2 ++ [.lit (.string vg), .lit (.string vr), bv vp, iv .u64 ve, bv vs] = kcs (k :: (r ++ [(⟨vg, vr, vp, ve, vs⟩ : Ky)])) := hQb
          exact ⟨⟨i + 1, D.set i E, k :: (r ++ [(⟨vg, vr, vp, ve, vs⟩ : Ky)]), nb7, nb8⟩, ⟨⟨by simp only; omega, by simp only [List.length_cons, hrl]; omega, by simp only [List.length_cons, hrl]; omega, by simp only; omega⟩, hDy hG, hQy hG, by simp [FR.out], by simp [FR.out], by simp [FR.out], by simp [FR.out]⟩, by simp only; omega, (Sub.pick (by simp [pickB, hget, hdel, FR.out, x1, x2, x3, x4, hne, hh, hrl, hQc, oV, oH, List.cons_append, List.nil_append]) (by simp [look, x1, x2, x3, x4, hne, hh, hrl, hQc, oV, oH, List.cons_append, List.nil_append]))⟩
        · have hcA : u = true ∧ w = false := by assumption
          have hG := hGt hcA.1 hcA.2
          have hh := hS1 hc hG
          have hrl : (r ++ [(⟨vg, vr, vp, ve, vs⟩ : Ky)]).length = r.length + 1 := by simp
          have hQc : K2 ++ [.lit (.string vg), .lit (.string vr), bv vp, iv .u64 ve, bv vs] = kcs (k :: (r ++ [(⟨vg, vr, vp, ve, vs⟩ : Ky)])) := hQb
          exact ⟨⟨i + 1, D.set i E, k :: (r ++ [(⟨vg, vr, vp, ve, vs⟩ : Ky)]), nb7, nb8⟩, ⟨⟨by simp only; omega, by simp only [List.length_cons, hrl]; omega, by simp only [List.length_cons, hrl]; omega, by simp only; omega⟩, hDy hG, hQy hG, by simp [FR.out], by simp [FR.out], by simp [FR.out], by simp [FR.out]⟩, by simp only; omega, (Sub.pick (by simp [pickB, hget, hdel, FR.out, x1, x2, x3, x4, hne, hh, hrl, hQc, oV, oH, List.cons_append, List.nil_append]) (by simp [look, x1, x2, x3, x4, hne, hh, hrl, hQc, oV, oH, List.cons_append, List.nil_append]))⟩
    · have ki : decide ((i : Int) < (n : Int)) = false := decide_eq_false (by omega)
      obtain rfl : i = n := by omega
      rw [List.take_of_length_le (by omega)] at hQ
      rw [← hQ, ← hD] at hA
      cases Q with
      | nil =>
        simp only [oV, oH, List.nil_append]
        first | (have FRx := FR; clear FRx) | have FR := fr0S
        have FA := Sm.mk (And.intro TFOuZC (And.intro ki (And.intro x1 (And.intro x2 (And.intro x3 (And.intro x4 hne))))))
        repeat' first | (apply Sm.mk; refine Ys ?_) | refine WP.seq fun K hK => ?_ | (apply Ob.mk; exact Yo) | refine And.intro (Ob.out ?_) ?_ | refine Y1OuZC ?_ | refine YzOuZC ?_ | (refine WP.cond rfl (fun hc => ?_) (fun hc => ?_) <;> (try simp only [ZC, reduceCtorEq, ZD] at hc) <;> (try exact absurd hc (by decide)) <;> (try (exfalso; omega))) | refine Rt.mk (And.intro (fun hg => Sm.out ?_) fun hg => Sm.out ?_) | (refine Nu.mk ?_; first | (fail_if_success have := nb1); intro nb1 | (fail_if_success have := nb2); intro nb2 | (fail_if_success have := nb3); intro nb3 | (fail_if_success have := nb4); intro nb4 | (fail_if_success have := nb5); intro nb5 | (fail_if_success have := nb6); intro nb6 | (fail_if_success have := nb7); intro nb7 | (fail_if_success have := nb8); intro nb8 | (fail_if_success have := nb9); intro nb9 | (fail_if_success have := nb10); intro nb10 | (fail_if_success have := nb11); intro nb11 | (fail_if_success have := nb12); intro nb12 | (fail_if_success have := nb13); intro nb13 | (fail_if_success have := nb14); intro nb14 | intro nbz) | (apply Yfr; refine Yf FR fun hFRb FR => ?_) | refine Two.mk ?_ ?_ | (apply Yxc; exact Yx) | refine Cs.mk fun hcs => Sm.out ?_ | go_step | omega | (simp only [maxLen_eq]; omega) | exact trivial
        (refine OutQ.drop _ _ (perm1 (b := nb4) (by simp only [hget, hdel, ↓reduceIte, if_true, if_false, FR.out]; first | done | rfl)) (by simp only [resv, ZK, look, loadv, loadn, loadnm, load1, load1m, hget, ↓reduceIte, Nat.reduceEqDiff, Nat.reduceAdd, Nat.reduceMul, Nat.reduceLeDiff, Nat.reduceLT, reduceCtorEq, TFOuZC, FR.out]) ?_; simp only [resv, resA, ZK, look, loadv, loadn, loadnm, load1, load1m, hget, ↓reduceIte, Nat.reduceEqDiff, Nat.reduceAdd, Nat.reduceMul, Nat.reduceLeDiff, Nat.reduceLT, reduceCtorEq, TFOuZC, FR.out]; exact vw_sn0 hA hb.1 hb.2)
      | cons k r =>
        simp only [oV, oH, List.cons_append, List.nil_append]
        first | (have FRx := FR; clear FRx) | have FR := fr0S
        have FA := Sm.mk (And.intro TFOuZC (And.intro ki (And.intro x1 (And.intro x2 (And.intro x3 (And.intro x4 hne))))))
        repeat' first | (apply Sm.mk; refine Ys ?_) | refine WP.seq fun K hK => ?_ | (apply Ob.mk; exact Yo) | refine And.intro (Ob.out ?_) ?_ | refine Y1OuZC ?_ | refine YzOuZC ?_ | (refine WP.cond rfl (fun hc => ?_) (fun hc => ?_) <;> (try simp only [ZC, reduceCtorEq, ZD] at hc) <;> (try exact absurd hc (by decide)) <;> (try (exfalso; omega))) | refine Rt.mk (And.intro (fun hg => Sm.out ?_) fun hg => Sm.out ?_) | (refine Nu.mk ?_; first | (fail_if_success have := nb1); intro nb1 | (fail_if_success have := nb2); intro nb2 | (fail_if_success have := nb3); intro nb3 | (fail_if_success have := nb4); intro nb4 | (fail_if_success have := nb5); intro nb5 | (fail_if_success have := nb6); intro nb6 | (fail_if_success have := nb7); intro nb7 | (fail_if_success have := nb8); intro nb8 | (fail_if_success have := nb9); intro nb9 | (fail_if_success have := nb10); intro nb10 | (fail_if_success have := nb11); intro nb11 | (fail_if_success have := nb12); intro nb12 | (fail_if_success have := nb13); intro nb13 | (fail_if_success have := nb14); intro nb14 | intro nbz) | (apply Yfr; refine Yf FR fun hFRb FR => ?_) | refine Two.mk ?_ ?_ | (apply Yxc; exact Yx) | refine Cs.mk fun hcs => Sm.out ?_ | go_step | omega | (simp only [maxLen_eq]; omega) | exact trivial
        have hKl := kcs_len (k :: r)
        rw [List.length_cons] at hKl hA
        have hq4 : r.length + 1 ≤ c := by simpa using hq2
        obtain ⟨K2, hK2⟩ : ∃ q, q = kcs (k :: r) := ⟨_, rfl⟩
        rw [← hK2] at hKl hA ⊢
        have e5 : K2.take ((r.length + 1) * 5) = K2 := List.take_of_length_le (by omega)
        first | (have FRx := FR; clear FRx) | have FR := fr0S
        have FA := Sm.mk (And.intro TFOuZC (And.intro ki (And.intro x1 (And.intro x2 (And.intro x3 (And.intro x4 hne))))))
        repeat' first | (apply Sm.mk; refine Ys ?_) | refine WP.seq fun K hK => ?_ | (apply Ob.mk; exact Yo) | refine And.intro (Ob.out ?_) ?_ | refine Y1OuZC ?_ | refine YzOuZC ?_ | (refine WP.cond rfl (fun hc => ?_) (fun hc => ?_) <;> (try simp only [ZC, reduceCtorEq, ZD] at hc) <;> (try exact absurd hc (by decide)) <;> (try (exfalso; omega))) | refine Rt.mk (And.intro (fun hg => Sm.out ?_) fun hg => Sm.out ?_) | (refine Nu.mk ?_; first | (fail_if_success have := nb1); intro nb1 | (fail_if_success have := nb2); intro nb2 | (fail_if_success have := nb3); intro nb3 | (fail_if_success have := nb4); intro nb4 | (fail_if_success have := nb5); intro nb5 | (fail_if_success have := nb6); intro nb6 | (fail_if_success have := nb7); intro nb7 | (fail_if_success have := nb8); intro nb8 | (fail_if_success have := nb9); intro nb9 | (fail_if_success have := nb10); intro nb10 | (fail_if_success have := nb11); intro nb11 | (fail_if_success have := nb12); intro nb12 | (fail_if_success have := nb13); intro nb13 | (fail_if_success have := nb14); intro nb14 | intro nbz) | (apply Yfr; refine Yf FR fun hFRb FR => ?_) | refine Two.mk ?_ ?_ | (apply Yxc; exact Yx) | refine Cs.mk fun hcs => Sm.out ?_ | go_step | omega | (simp only [maxLen_eq]; omega) | exact trivial
        (refine OutQ.wk (Wk.freezeC (x) (5) (by simp only [ZK, rvc, capA, appA, litL, mkfv, drawF, headN, pureH, stp, dvc, calleeOf, gcall, pev, eff, newB, okd, og, ogs, ogo, ogp, slv, bltv, opd, litv, strip, one, both, putE, St.put, look, gdOf, gdv, picka, pickv, pickw, binv, bini, bins, binb, binp, binq, isSlT, bina, shp, eqCells, unv, convv, nilv, faddv, addp, idxav, idxp, load1, load1m, loadn, loadnm, loadv, hget, hset, hrep, hdel, slicev, slice3v, bnd, shift1, lenv, capv, IntKind.bits, extractv, fieldv, indexv, min2v, max2v, mkiv, tasv, tasz, cellsA, fillA, buildv, stC, oneC, rowMB, intsA, plN, appE, appZ, appC, appS, srcB, appNZ, appNC, VwL, srcC, srcZ, srcM, isBoolT, isPtrT, isSliceT, uOk, Value.oneCell', Nat.reducePow, Int.reducePow, Nat.reduceAdd, Nat.reduceMul, Nat.reduceSub, Nat.reduceLT, Nat.reduceLeDiff, Nat.reduceEqDiff, Nat.reduceBEq, Nat.reduceDiv, Nat.reduceMod, ↓reduceIte, reduceCtorEq, Int.reduceToNat, Int.reduceLT, Int.reduceLE, TFOuZC, SeqQ, BlkQ, LoopQ, BodyQ, hKl, e5, hq4, hq3, x1, x2, x3, x4, maxLen_eq, FR.out]; first | done | rfl)) ?_; simp only [frzCE, frzC, ZK, rvc, capA, appA, litL, mkfv, drawF, headN, pureH, stp, dvc, calleeOf, gcall, pev, eff, newB, okd, og, ogs, ogo, ogp, slv, bltv, opd, litv, strip, one, both, putE, St.put, look, gdOf, gdv, picka, pickv, pickw, binv, bini, bins, binb, binp, binq, isSlT, bina, shp, eqCells, unv, convv, nilv, faddv, addp, idxav, idxp, load1, load1m, loadn, loadnm, loadv, hget, hset, hrep, hdel, slicev, slice3v, bnd, shift1, lenv, capv, IntKind.bits, extractv, fieldv, indexv, min2v, max2v, mkiv, tasv, tasz, cellsA, fillA, buildv, stC, oneC, rowMB, intsA, plN, appE, appZ, appC, appS, srcB, appNZ, appNC, VwL, srcC, srcZ, srcM, isBoolT, isPtrT, isSliceT, uOk, Value.oneCell', Nat.reducePow, Int.reducePow, Nat.reduceAdd, Nat.reduceMul, Nat.reduceSub, Nat.reduceLT, Nat.reduceLeDiff, Nat.reduceEqDiff, Nat.reduceBEq, Nat.reduceDiv, Nat.reduceMod, ↓reduceIte, reduceCtorEq, Int.reduceToNat, Int.reduceLT, Int.reduceLE, TFOuZC, SeqQ, BlkQ, LoopQ, BodyQ, hKl, e5, hq4, hq3, x1, x2, x3, x4, maxLen_eq, FR.out])
        (refine OutQ.drop _ _ (perm1 (b := nb4) (by simp only [hget, hdel, ↓reduceIte, if_true, if_false, FR.out]; first | done | rfl)) (by simp only [resv, ZK, look, loadv, loadn, loadnm, load1, load1m, hget, ↓reduceIte, Nat.reduceEqDiff, Nat.reduceAdd, Nat.reduceMul, Nat.reduceLeDiff, Nat.reduceLT, reduceCtorEq, TFOuZC, FR.out]) ?_; simp only [resv, resA, ZK, look, loadv, loadn, loadnm, load1, load1m, hget, ↓reduceIte, Nat.reduceEqDiff, Nat.reduceAdd, Nat.reduceMul, Nat.reduceLeDiff, Nat.reduceLT, reduceCtorEq, TFOuZC, FR.out]; exact vw_sn1 hA hb.1 hb.2)
end Go.Proofs.YtfknbndmabogjaaDoor
