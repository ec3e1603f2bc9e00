/-
  The walks and the laws that the statement leans on, part 33.
-/
import Derived.Test.YtfknbndmabogjaaDoorB9
import Derived.Test.YtfknbndmabogjaaDoorB32
namespace Go.Proofs.YtfknbndmabogjaaDoor
open Go
set_option linter.unusedVariables false
set_option linter.unusedSimpArgs false
set_option linter.defProp false
def TFOuV :=
  And.intro (And.intro (And.intro (And.intro (And.intro (And.intro tyc0 tyc3) (And.intro zmb3 tyc4)) (And.intro (And.intro zmb4 tyc24) (And.intro elt24 mkz24))) (And.intro (And.intro (And.intro mkc24 apT24) (And.intro elk24 zmb24)) (And.intro (And.intro tyc27 foff27_0) (And.intro fpart27_0 foff27_1)))) (And.intro (And.intro (And.intro (And.intro fpart27_1 zmb27) (And.intro bldT27 tyc29)) (And.intro (And.intro foff29_0 fpart29_0) (And.intro foff29_1 fpart29_1))) (And.intro (And.intro (And.intro foff29_2 fpart29_2) (And.intro foff29_3 fpart29_3)) (And.intro (And.intro foff29_4 fpart29_4) (And.intro fe29 zmb29))))) (And.intro (And.intro (And.intro (And.intro (And.intro bldT29 tyc38) (And.intro foff38_0 fpart38_0)) (And.intro (And.intro foff38_1 fpart38_1) (And.intro foff38_2 fpart38_2))) (And.intro (And.intro (And.intro foff38_3 fpart38_3) (And.intro foff38_4 fpart38_4)) (And.intro (And.intro zmb38 bldT38) (And.intro tyc43 elt43)))) (And.intro (And.intro (And.intro (And.intro mkz43 mkc43) (And.intro apT43 elk43)) (And.intro (And.intro zmb43 tyc75) (And.intro zmb75 Tryd.underlying0))) (And.intro (And.intro (And.intro Tryd.underlying3 Tryd.underlying4) (And.intro Tryd.underlying24 Tryd.underlying27)) (And.intro (And.intro Tryd.underlying29 Tryd.underlying38) (And.intro Tryd.underlying43 Tryd.underlying75)))))
theorem Y1OuV {G R : Prop} (r : R) (h : R → G := by intro r; first | (apply WP.region; exact rvc_sound _ _ (Sm.out r)) | exact WP.drawK rfl mixed (by decide +kernel) (Sm.out r) | (apply WP.block; exact r) | (apply WP.skip; exact Yq r) | (apply WP.exit; exact Yq r) | (apply WP.ret; exact Sm.out r) | exact WP.cond rfl (fun _ => r) (fun hg => absurd hg (by decide)) | exact WP.cond rfl (fun hg => absurd hg (by decide)) (fun _ => r) | exact Rt.mk (And.intro (fun _ => Sm.out r) fun hg => absurd hg (by decide)) | exact Rt.mk (And.intro (fun hg => absurd hg (by decide)) fun _ => Sm.out r)) : G := h r
theorem YzOuV {G R : Prop} (r : R) (h : R → G := by intro r; first | (apply ExG.no; exact Sm.out r) | (apply Or.inl; apply ExG.no; exact Sm.out r) | exact Or.inl (And.intro (fun hg => absurd hg (by decide)) (ExG.no (Sm.out r)))) : G := h r
noncomputable def stB (ks : List Ky) (b : Bx) : Bx := if bxB b then ⟨b.l.filter (fun e => !dlB ks e), b.d⟩ else b
theorem ixn_ct (fn : AV) : ACt Tryd.prog 49 [nsl, fn] [] (Fn (iv .i64 (-1))) := by
  refine ACt.intro Tryd.func49 rfl (by kernel_rfl) (by simp [Tryd.ntmps49]) (fun cx => ?_)
  simp only [argE, Tryd.ntmps49, Tryd.results49]
  first | (have FRx := FR; clear FRx) | have FR := fr0S
  have FA := Sm.mk (TFOuV)
  repeat' first | (apply Sm.mk; refine Ys ?_) | refine WP.seq fun K hK => ?_ | (apply Ob.mk; exact Yo) | refine And.intro (Ob.out ?_) ?_ | refine Y1OuV ?_ | refine YzOuV ?_ | (refine WP.cond rfl (fun hc => ?_) (fun hc => ?_) <;> (try simp only [ZC, reduceCtorEq, ZD] at hc) <;> (try exact absurd hc (by decide)) <;> (try (exfalso; omega))) | refine Rt.mk (And.intro (fun hg => Sm.out ?_) fun hg => Sm.out ?_) | (refine Nu.mk ?_; first | (fail_if_success have := nb1); intro nb1 | (fail_if_success have := nb2); intro nb2 | (fail_if_success have := nb3); intro nb3 | (fail_if_success have := nb4); intro nb4 | (fail_if_success have := nb5); intro nb5 | (fail_if_success have := nb6); intro nb6 | (fail_if_success have := nb7); intro nb7 | (fail_if_success have := nb8); intro nb8 | (fail_if_success have := nb9); intro nb9 | (fail_if_success have := nb10); intro nb10 | intro nbz) | (apply Yfr; refine Yf FR fun hFRb FR => ?_) | refine Two.mk ?_ ?_ | (apply Yxc; exact Yx) | refine Cs.mk fun hcs => Sm.out ?_ | go_step | omega | (simp only [maxLen_eq]; omega) | exact trivial
  refine WP.loop (Γ := Unit) (fun _ => ⟨[(8, iv .i64 0), (7, iv .i64 0), (0, nsl), (1, fn)], []⟩) (fun _ => True) (fun _ => 0) () trivial (Sub.pick (by simp [pickB, hget, hdel, FR.out]) (by simp [look])) ?_
  intro _ _
  have FR : Sm (¬ ((1 : Nat) = 0)) := Sm.mk Nat.one_ne_zero
  have k0 : decide ((0 : Int) < 0) = false := by decide
  first | (have FRx := FR; clear FRx) | have FR := fr0S
  have FA := Sm.mk (And.intro TFOuV k0)
  repeat' first | (apply Sm.mk; refine Ys ?_) | refine WP.seq fun K hK => ?_ | (apply Ob.mk; exact Yo) | refine And.intro (Ob.out ?_) ?_ | refine Y1OuV ?_ | refine YzOuV ?_ | (refine WP.cond rfl (fun hc => ?_) (fun hc => ?_) <;> (try simp only [ZC, reduceCtorEq, ZD] at hc) <;> (try exact absurd hc (by decide)) <;> (try (exfalso; omega))) | refine Rt.mk (And.intro (fun hg => Sm.out ?_) fun hg => Sm.out ?_) | (refine Nu.mk ?_; first | (fail_if_success have := nb1); intro nb1 | (fail_if_success have := nb2); intro nb2 | (fail_if_success have := nb3); intro nb3 | (fail_if_success have := nb4); intro nb4 | (fail_if_success have := nb5); intro nb5 | (fail_if_success have := nb6); intro nb6 | (fail_if_success have := nb7); intro nb7 | (fail_if_success have := nb8); intro nb8 | (fail_if_success have := nb9); intro nb9 | (fail_if_success have := nb10); intro nb10 | intro nbz) | (apply Yfr; refine Yf FR fun hFRb FR => ?_) | refine Two.mk ?_ ?_ | (apply Yxc; exact Yx) | refine Cs.mk fun hcs => Sm.out ?_ | go_step | omega | (simp only [maxLen_eq]; omega) | exact trivial
  (refine Yg ?_; try exact trivial)
theorem dln_ct (b : Nat) : ACt Tryd.prog 52 [nsl, fSt b] [] (Fn nsl) := by
  have cI := ixn_ct (fSt b)
  unfold nsl fSt at cI ⊢
  have k0 : ((-1 : Int) == -1) = true := rfl
  refine ACt.intro Tryd.func52 rfl (by kernel_rfl) (by simp [Tryd.ntmps52]) (fun cx => ?_)
  simp only [argE, Tryd.ntmps52, Tryd.results52]
  first | (have FRx := FR; clear FRx) | have FR := fr0S
  have FA := Sm.mk (And.intro TFOuV k0)
  repeat' first | (apply Sm.mk; refine Ys ?_) | refine WP.seq fun K hK => ?_ | (apply Ob.mk; exact Yo) | refine And.intro (Ob.out ?_) ?_ | refine Y1OuV ?_ | refine Yc (c := cI) (r := ?_) | refine YzOuV ?_ | (refine WP.cond rfl (fun hc => ?_) (fun hc => ?_) <;> (try simp only [ZC, reduceCtorEq, ZD] at hc) <;> (try exact absurd hc (by decide)) <;> (try (exfalso; omega))) | refine Rt.mk (And.intro (fun hg => Sm.out ?_) fun hg => Sm.out ?_) | (refine Nu.mk ?_; first | (fail_if_success have := nb1); intro nb1 | (fail_if_success have := nb2); intro nb2 | (fail_if_success have := nb3); intro nb3 | (fail_if_success have := nb4); intro nb4 | (fail_if_success have := nb5); intro nb5 | (fail_if_success have := nb6); intro nb6 | (fail_if_success have := nb7); intro nb7 | (fail_if_success have := nb8); intro nb8 | (fail_if_success have := nb9); intro nb9 | (fail_if_success have := nb10); intro nb10 | intro nbz) | (apply Yfr; refine Yf FR fun hFRb FR => ?_) | refine Two.mk ?_ ?_ | (apply Yxc; exact Yx) | refine Cs.mk fun hcs => Sm.out ?_ | go_step | omega | (simp only [maxLen_eq]; omega) | exact trivial
  (refine Yg ?_; try exact trivial)
theorem vw_boxe {x n c s ty : Nat} {C : List AV} {d : Int} {R : AV} (hR : R = .agg [.sl n C, iv .u64 d]) (h2 : n ≤ c) (h3 : c ≤ 9223372036854775807) : Vw [(x, .cells C s ty)] (.agg [ms x 0 n c, iv .u64 d]) R := hR ▸ vw_box h2 h3
theorem vw_nile {d : Int} {R : AV} (hR : R = .agg [.sl 0 [], iv .u64 d]) : Vw [] (.agg [nsl, iv .u64 d]) R := hR ▸ vw_nil
set_option maxHeartbeats 4000000 in
theorem settle_row {X : AV} (ks : List Ky) (b : Bx) (n m : Nat) (hn : b.l.length = n) (hm : ks.length = m) (hl : n ≤ 100000) (hml : m ≤ 100000) (hz : ∀ e ∈ b.l, Kz e.k) (hX : (∃ m D, X = .sl m D) ∨ (∃ ad cap, X = .lit (.slice (some ad) 0 cap)))
    (hC : ACt Tryd.prog 76 [X] [] (fun r F' => ∃ x c : Nat, (n ≤ c ∧ c ≤ 9223372036854775807) ∧ r = ms x 0 n c ∧ F' = (x, .cells (ecs b.l) (c * 9) 38) :: [])) :
    ACt Tryd.prog 23 [.agg [X, iv .u64 b.d], .sl m (kcs ks)] [] (fun r F' => Vw F' r (bxv (stB ks b))) := by
  have cO := own_row b.d hX hC
  have cR := bright_ct b n hn hl hz
  have cD := fun x k c hk hxb => dlf_ct b.l ks n m k x c hn hm hl hml hk hxb
  unfold fSt kbs at cD
  have hA1 : bxB b = true → bxv (stB ks b) = .agg [.sl (b.l.filter (fun e => !dlB ks e)).length (ecs (b.l.filter (fun e => !dlB ks e))), iv .u64 b.d] := fun h => by unfold stB; rw [if_pos h]
  have hA2 : bxB b = false → bxv (stB ks b) = .agg [.sl n (ecs b.l), iv .u64 b.d] := fun h => by unfold stB; rw [if_neg (by rw [h]; decide), ← hn]
  have hfl : (b.l.filter (fun e => !dlB ks e)).length ≤ n := by rw [← hn]; exact List.length_filter_le ..
  obtain ⟨l, d⟩ := b
  simp only at hn hz cO cR cD hA1 hA2 hfl ⊢
  obtain ⟨R, hR⟩ : ∃ R, R = bxv (stB ks ⟨l, d⟩) := ⟨_, rfl⟩
  rw [← hR] at hA1 hA2 ⊢
  obtain ⟨C, hC'⟩ : ∃ C, C = ecs l := ⟨_, rfl⟩
  rw [← hC'] at cO cR hA2
  simp only [← hC'] at cD
  obtain ⟨n2, hn2⟩ : ∃ q, q = (l.filter (fun e => !dlB ks e)).length := ⟨_, rfl⟩
  obtain ⟨C2, hC2⟩ : ∃ q, q = ecs (l.filter (fun e => !dlB ks e)) := ⟨_, rfl⟩
  rw [← hn2, ← hC2] at hA1
  rw [← hn2] at hfl
  simp only [← hn2, ← hC2] at cD
  obtain ⟨K1, hK1⟩ : ∃ q, q = kcs ks := ⟨_, rfl⟩
  rw [← hK1]
  simp only [← hK1] at cD
  obtain ⟨p, hp⟩ : ∃ p, bxB ⟨l, d⟩ = p := ⟨_, rfl⟩
  rw [hp] at cR hA1 hA2
  clear hR hC' hn2 hC2 hK1 hp hz
  refine ACt.intro Tryd.func23 rfl (by kernel_rfl) (by simp [Tryd.ntmps23]) (fun cx => ?_)
  simp only [argE, Tryd.ntmps23, Tryd.results23]
  first | (have FRx := FR; clear FRx) | have FR := fr0S
  have FA := Sm.mk (TFOuV)
  repeat' first | (apply Sm.mk; refine Ys ?_) | refine WP.seq fun K hK => ?_ | (apply Ob.mk; exact Yo) | refine And.intro (Ob.out ?_) ?_ | ((fail_if_success (show WP _ _ _ (.region 2 _ _) _ _)); refine Y1OuV ?_) | refine CallV.newC (cO) (List.Perm.refl _) (fun _ _ => rfl) (Sm.out ?_) | refine YzOuV ?_ | (refine WP.cond rfl (fun hc => ?_) (fun hc => ?_) <;> (try simp only [ZC, reduceCtorEq, ZD] at hc) <;> (try exact absurd hc (by decide)) <;> (try (exfalso; omega))) | refine Rt.mk (And.intro (fun hg => Sm.out ?_) fun hg => Sm.out ?_) | (refine Nu.mk ?_; first | (fail_if_success have := nb1); intro nb1 | (fail_if_success have := nb2); intro nb2 | (fail_if_success have := nb3); intro nb3 | (fail_if_success have := nb4); intro nb4 | (fail_if_success have := nb5); intro nb5 | (fail_if_success have := nb6); intro nb6 | (fail_if_success have := nb7); intro nb7 | (fail_if_success have := nb8); intro nb8 | (fail_if_success have := nb9); intro nb9 | (fail_if_success have := nb10); intro nb10 | intro nbz) | (apply Yfr; refine Yf FR fun hFRb FR => ?_) | refine Two.mk ?_ ?_ | (apply Yxc; exact Yx) | refine Cs.mk fun hcs => Sm.out ?_ | go_step | omega | (simp only [maxLen_eq]; omega) | exact trivial
  have hb := FR.out.1.1
  have hne : nb4 ≠ nb2 ∧ nb2 ≠ nb4 := by simp [FR.out]
  have cR2 : ACt Tryd.prog 16 [.agg [ms nb4 0 n nb5, iv .u64 d]] [(nb4, .cells C (nb5 * 9) 38)] (fun r F' => r = bv p ∧ F' = [(nb4, .cells C (nb5 * 9) 38)]) := cR.view rfl ⟨vw_box hb.1 hb.2, trivial⟩
  have cD := cD nb4 nb5 nb2 hb hne
  clear cO cR
  first | (have FRx := FR; clear FRx) | have FR := fr0S
  have FA := Sm.mk (And.intro TFOuV hb)
  repeat' first | (apply Sm.mk; refine Ys ?_) | refine WP.seq fun K hK => ?_ | (apply Ob.mk; exact Yo) | refine And.intro (Ob.out ?_) ?_ | refine Y1OuV ?_ | refine Yl1 (c := cR2) (r := ?_) | refine Yw2 (c := cD) (r := ?_) | refine YzOuV ?_ | (refine WP.cond rfl (fun hc => ?_) (fun hc => ?_) <;> (try simp only [ZC, reduceCtorEq, ZD] at hc) <;> (try exact absurd hc (by decide)) <;> (try (exfalso; omega))) | refine Rt.mk (And.intro (fun hg => Sm.out ?_) fun hg => Sm.out ?_) | (refine Nu.mk ?_; first | (fail_if_success have := nb1); intro nb1 | (fail_if_success have := nb2); intro nb2 | (fail_if_success have := nb3); intro nb3 | (fail_if_success have := nb4); intro nb4 | (fail_if_success have := nb5); intro nb5 | (fail_if_success have := nb6); intro nb6 | (fail_if_success have := nb7); intro nb7 | (fail_if_success have := nb8); intro nb8 | (fail_if_success have := nb9); intro nb9 | (fail_if_success have := nb10); intro nb10 | intro nbz) | (apply Yfr; refine Yf FR fun hFRb FR => ?_) | refine Two.mk ?_ ?_ | (apply Yxc; exact Yx) | refine Cs.mk fun hcs => Sm.out ?_ | go_step | omega | (simp only [maxLen_eq]; omega) | exact trivial
  · (refine OutQ.drop _ _ (perm1 (b := nb4) (by simp only [hget, hdel, ↓reduceIte, if_true, if_false, FR.out]; first | done | rfl)) (by simp only [resv, ZK, look, loadv, loadn, loadnm, load1, load1m, hget, ↓reduceIte, Nat.reduceEqDiff, Nat.reduceAdd, Nat.reduceMul, Nat.reduceLeDiff, Nat.reduceLT, reduceCtorEq, TFOuV, FR.out]) ?_; simp only [resv, resA, ZK, look, loadv, loadn, loadnm, load1, load1m, hget, ↓reduceIte, Nat.reduceEqDiff, Nat.reduceAdd, Nat.reduceMul, Nat.reduceLeDiff, Nat.reduceLT, reduceCtorEq, TFOuV, FR.out]; exact vw_boxe (hA1 hc) (by omega) hb.2)
  · (refine OutQ.drop _ _ (perm1 (b := nb4) (by simp only [hget, hdel, ↓reduceIte, if_true, if_false, FR.out]; first | done | rfl)) (by simp only [resv, ZK, look, loadv, loadn, loadnm, load1, load1m, hget, ↓reduceIte, Nat.reduceEqDiff, Nat.reduceAdd, Nat.reduceMul, Nat.reduceLeDiff, Nat.reduceLT, reduceCtorEq, TFOuV, FR.out]) ?_; simp only [resv, resA, ZK, look, loadv, loadn, loadnm, load1, load1m, hget, ↓reduceIte, Nat.reduceEqDiff, Nat.reduceAdd, Nat.reduceMul, Nat.reduceLeDiff, Nat.reduceLT, reduceCtorEq, TFOuV, FR.out]; exact vw_boxe (hA2 hc) hb.1 hb.2)
theorem settle_nil (ks : List Ky) (d : Int) (cap m : Nat) : ACt Tryd.prog 23 [.agg [.lit (.slice none 0 cap), iv .u64 d], .sl m (kcs ks)] [] (fun r F' => Vw F' r (bxv (stB ks ⟨[], d⟩))) := by
  have cO := own_nil d cap
  have cR := bright_ct ⟨[], d⟩ 0 rfl (by omega) (fun e he => by cases he)
  have cD := fun x => dln_ct x
  unfold fSt at cD
  have hA : bxv (stB ks ⟨[], d⟩) = .agg [.sl 0 [], iv .u64 d] := by unfold stB; split <;> rfl
  rw [hA]
  have he : ecs [] = [] := rfl
  simp only [he] at cR
  obtain ⟨p, hp⟩ : ∃ p, bxB ⟨[], d⟩ = p := ⟨_, rfl⟩
  rw [hp] at cR
  obtain ⟨K1, hK1⟩ : ∃ q, q = kcs ks := ⟨_, rfl⟩
  rw [← hK1]
  clear hp hA hK1
  have cR2 : ACt Tryd.prog 16 [.agg [nsl, iv .u64 d]] [] (fun r F' => r = bv p ∧ F' = []) := cR.view rfl ⟨vw_nil, trivial⟩
  clear cR
  refine ACt.intro Tryd.func23 rfl (by kernel_rfl) (by simp [Tryd.ntmps23]) (fun cx => ?_)
  simp only [argE, Tryd.ntmps23, Tryd.results23]
  first | (have FRx := FR; clear FRx) | have FR := fr0S
  have FA := Sm.mk (TFOuV)
  repeat' first | (apply Sm.mk; refine Ys ?_) | refine WP.seq fun K hK => ?_ | (apply Ob.mk; exact Yo) | refine And.intro (Ob.out ?_) ?_ | ((fail_if_success (show WP _ _ _ (.region 3 _ _) _ _)); refine Y1OuV ?_) | refine Yc (c := cO) (r := ?_) | refine Yc (c := cR2) (r := ?_) | refine YzOuV ?_ | (refine WP.cond rfl (fun hc => ?_) (fun hc => ?_) <;> (try simp only [ZC, reduceCtorEq, ZD] at hc) <;> (try exact absurd hc (by decide)) <;> (try (exfalso; omega))) | refine Rt.mk (And.intro (fun hg => Sm.out ?_) fun hg => Sm.out ?_) | (refine Nu.mk ?_; first | (fail_if_success have := nb1); intro nb1 | (fail_if_success have := nb2); intro nb2 | (fail_if_success have := nb3); intro nb3 | (fail_if_success have := nb4); intro nb4 | (fail_if_success have := nb5); intro nb5 | (fail_if_success have := nb6); intro nb6 | (fail_if_success have := nb7); intro nb7 | (fail_if_success have := nb8); intro nb8 | (fail_if_success have := nb9); intro nb9 | (fail_if_success have := nb10); intro nb10 | intro nbz) | (apply Yfr; refine Yf FR fun hFRb FR => ?_) | refine Two.mk ?_ ?_ | (apply Yxc; exact Yx) | refine Cs.mk fun hcs => Sm.out ?_ | go_step | omega | (simp only [maxLen_eq]; omega) | exact trivial
  · have cD := cD nb2
    first | (have FRx := FR; clear FRx) | have FR := fr0S
    have FA := Sm.mk (TFOuV)
    repeat' first | (apply Sm.mk; refine Ys ?_) | refine WP.seq fun K hK => ?_ | (apply Ob.mk; exact Yo) | refine And.intro (Ob.out ?_) ?_ | refine Y1OuV ?_ | refine Yc (c := cD) (r := ?_) | refine YzOuV ?_ | (refine WP.cond rfl (fun hc => ?_) (fun hc => ?_) <;> (try simp only [ZC, reduceCtorEq, ZD] at hc) <;> (try exact absurd hc (by decide)) <;> (try (exfalso; omega))) | refine Rt.mk (And.intro (fun hg => Sm.out ?_) fun hg => Sm.out ?_) | (refine Nu.mk ?_; first | (fail_if_success have := nb1); intro nb1 | (fail_if_success have := nb2); intro nb2 | (fail_if_success have := nb3); intro nb3 | (fail_if_success have := nb4); intro nb4 | (fail_if_success have := nb5); intro nb5 | (fail_if_success have := nb6); intro nb6 | (fail_if_success have := nb7); intro nb7 | (fail_if_success have := nb8); intro nb8 | (fail_if_success have := nb9); intro nb9 | (fail_if_success have := nb10); intro nb10 | intro nbz) | (apply Yfr; refine Yf FR fun hFRb FR => ?_) | refine Two.mk ?_ ?_ | (apply Yxc; exact Yx) | refine Cs.mk fun hcs => Sm.out ?_ | go_step | omega | (simp only [maxLen_eq]; omega) | exact trivial
    (refine OutQ.drop [] _ (List.Perm.refl _) (by simp only [resv, ZK, look, loadv, loadn, loadnm, load1, load1m, hget, ↓reduceIte, Nat.reduceEqDiff, Nat.reduceAdd, Nat.reduceMul, Nat.reduceLeDiff, Nat.reduceLT, reduceCtorEq, TFOuV, FR.out]) ?_; simp only [resv, resA, ZK, look, loadv, loadn, loadnm, load1, load1m, hget, ↓reduceIte, Nat.reduceEqDiff, Nat.reduceAdd, Nat.reduceMul, Nat.reduceLeDiff, Nat.reduceLT, reduceCtorEq, TFOuV, FR.out]; exact vw_nile rfl)
  · (refine OutQ.drop [] _ (List.Perm.refl _) (by simp only [resv, ZK, look, loadv, loadn, loadnm, load1, load1m, hget, ↓reduceIte, Nat.reduceEqDiff, Nat.reduceAdd, Nat.reduceMul, Nat.reduceLeDiff, Nat.reduceLT, reduceCtorEq, TFOuV, FR.out]) ?_; simp only [resv, resA, ZK, look, loadv, loadn, loadnm, load1, load1m, hget, ↓reduceIte, Nat.reduceEqDiff, Nat.reduceAdd, Nat.reduceMul, Nat.reduceLeDiff, Nat.reduceLT, reduceCtorEq, TFOuV, FR.out]; exact vw_nile rfl)
theorem settle_ct (ks : List Ky) (b : Bx) (n m : Nat) (hn : b.l.length = n) (hm : ks.length = m) (hl : n ≤ 100000) (hml : m ≤ 100000) (hz : ∀ e ∈ b.l, Kz e.k) : ACt Tryd.prog 23 [.agg [.sl n (ecs b.l), iv .u64 b.d], .sl m (kcs ks)] [] (Fn (bxv (stB ks b))) :=
  box_arg (pre := []) (post := [.sl m (kcs ks)]) hn hl (fun X hX hC => settle_row ks b n m hn hm hl hml hz hX hC) (fun h cap => by
    obtain ⟨l, d⟩ := b
    obtain rfl : l = [] := h
    exact settle_nil ks d cap m)
end Go.Proofs.YtfknbndmabogjaaDoor
