/-
  The walks and the laws that the statement leans on, part 37.
-/
import Derived.Test.YtfknbndmabogjaaDoorD9
import Derived.Test.YtfknbndmabogjaaDoorD36
namespace Go.Proofs.YtfknbndmabogjaaDoor
open Go
set_option linter.unusedVariables false
set_option linter.unusedSimpArgs false
set_option linter.defProp false
def TFOuZD :=
  And.intro (And.intro (And.intro (And.intro (And.intro (And.intro tyc0 tyc2) (And.intro zmb2 (And.intro tyc3 zmb3))) (And.intro (And.intro tyc4 zmb4) (And.intro tyc23 (And.intro foff23_0 fpart23_0)))) (And.intro (And.intro (And.intro foff23_1 fpart23_1) (And.intro foff23_2 (And.intro fpart23_2 foff23_3))) (And.intro (And.intro fpart23_3 (And.intro foff23_4 fpart23_4)) (And.intro fe23 (And.intro zmb23 bldT23))))) (And.intro (And.intro (And.intro (And.intro tyc24 elt24) (And.intro mkz24 (And.intro mkc24 apT24))) (And.intro (And.intro elk24 (And.intro zmb24 tyc27)) (And.intro foff27_0 (And.intro fpart27_0 foff27_1)))) (And.intro (And.intro (And.intro fpart27_1 zmb27) (And.intro bldT27 (And.intro tyc29 foff29_0))) (And.intro (And.intro fpart29_0 (And.intro foff29_1 fpart29_1)) (And.intro foff29_2 (And.intro fpart29_2 foff29_3)))))) (And.intro (And.intro (And.intro (And.intro (And.intro fpart29_3 foff29_4) (And.intro fpart29_4 (And.intro fe29 zmb29))) (And.intro (And.intro bldT29 (And.intro tyc34 zmb34)) (And.intro tyc38 (And.intro foff38_0 fpart38_0)))) (And.intro (And.intro (And.intro foff38_1 fpart38_1) (And.intro foff38_2 (And.intro fpart38_2 foff38_3))) (And.intro (And.intro fpart38_3 (And.intro foff38_4 fpart38_4)) (And.intro zmb38 (And.intro bldT38 tyc43))))) (And.intro (And.intro (And.intro (And.intro elt43 mkz43) (And.intro mkc43 (And.intro apT43 elk43))) (And.intro (And.intro zmb43 (And.intro tyc79 zmb79)) (And.intro tyc81 (And.intro Tryd.underlying0 Tryd.underlying2)))) (And.intro (And.intro (And.intro Tryd.underlying3 Tryd.underlying4) (And.intro Tryd.underlying23 (And.intro Tryd.underlying24 Tryd.underlying27))) (And.intro (And.intro Tryd.underlying29 (And.intro Tryd.underlying34 Tryd.underlying38)) (And.intro Tryd.underlying43 (And.intro Tryd.underlying79 Tryd.underlying81))))))
theorem Y1OuZD {G R : Prop} (r : R) (h : R → G := by intro r; first | (apply WP.region; exact rvc_sound _ _ (Sm.out r)) | exact WP.drawK rfl mixed (by decide +kernel) (Sm.out r) | (apply WP.block; exact r) | (apply WP.skip; exact Yq r) | (apply WP.exit; exact Yq r) | (apply WP.ret; exact Sm.out r) | exact WP.cond rfl (fun _ => r) (fun hg => absurd hg (by decide)) | exact WP.cond rfl (fun hg => absurd hg (by decide)) (fun _ => r) | exact Rt.mk (And.intro (fun _ => Sm.out r) fun hg => absurd hg (by decide)) | exact Rt.mk (And.intro (fun hg => absurd hg (by decide)) fun _ => Sm.out r)) : G := h r
theorem YzOuZD {G R : Prop} (r : R) (h : R → G := by intro r; first | (apply ExG.no; exact Sm.out r) | (apply Or.inl; apply ExG.no; exact Sm.out r) | exact Or.inl (And.intro (fun hg => absurd hg (by decide)) (ExG.no (Sm.out r)))) : G := h r
theorem vw_snn {d : Int} {R : AV} (hR : R = .tup [.agg [.sl 0 [], iv .u64 d], .sl 0 []]) : Vw [] (.tup [.agg [nsl, iv .u64 d], nsl]) R := by
  subst hR
  exact .tup rfl fun i hi => by
    match i, hi with
    | 0, _ => exact vw_nil
    | 1, _ => exact .nils
set_option maxHeartbeats 4000000 in
set_option maxRecDepth 8000 in
theorem send_nil (nt : Nt) (d : Int) (now : Int) (hs : List Ky) (cap m : Nat) :
    ACt Tryd.prog 25 [ntv nt, .agg [.lit (.slice none 0 cap), iv .u64 d], iv .i64 now, .sl m (kcs hs)] [] (fun r F' => Vw F' r (snR nt ⟨[], d⟩ now hs)) := by
  have cO := own_nil d cap
  have cN := notify_ct nt
  have cR := bright_ct ⟨[], d⟩ 0 rfl (by omega) (fun e he => by cases he)
  have cT := tick_ct now
  have hA : snR nt ⟨[], d⟩ now hs = .tup [.agg [.sl 0 [], iv .u64 d], .sl 0 []] := by
    unfold snR snB snK
    cases ntB nt && bxB ⟨[], d⟩ && tkB now <;> rfl
  rw [hA]
  have he : ecs [] = [] := rfl
  simp only [List.length_nil, he] at cO cR
  obtain ⟨p1, h1⟩ : ∃ p, ntB nt = p := ⟨_, rfl⟩
  obtain ⟨p2, h2⟩ : ∃ p, bxB ⟨[], d⟩ = p := ⟨_, rfl⟩
  obtain ⟨p4, h4⟩ : ∃ p, tkB now = p := ⟨_, rfl⟩
  rw [h1] at cN
  rw [h2] at cR
  rw [h4] at cT
  obtain ⟨K1, hK1⟩ : ∃ K, K = kcs hs := ⟨_, rfl⟩
  rw [← hK1]
  clear h1 h2 h4 hK1 hA
  obtain ⟨ro, re, fi, ca, rp⟩ := nt
  have cR2 : ACt Tryd.prog 16 [.agg [nsl, iv .u64 d]] [] (fun r F' => r = bv p2 ∧ F' = []) := cR.view rfl ⟨vw_nil, trivial⟩
  clear cR
  refine ACt.intro Tryd.func25 rfl (by kernel_rfl) (by simp [Tryd.ntmps25]) (fun cx => ?_)
  simp only [argE, Tryd.ntmps25, Tryd.results25]
  first | (have FRx := FR; clear FRx) | have FR := fr0S
  have FA := Sm.mk (TFOuZD)
  repeat' first | (apply Sm.mk; refine Ys ?_) | refine WP.seq fun K hK => ?_ | (apply Ob.mk; exact Yo) | refine And.intro (Ob.out ?_) ?_ | refine Y1OuZD ?_ | refine Yc (c := cO) (r := ?_) | refine Yc (c := cN) (r := ?_) | refine Yc (c := cR2) (r := ?_) | refine Yc (c := cT) (r := ?_) | refine YzOuZD ?_ | (refine WP.cond rfl (fun hc => ?_) (fun hc => ?_) <;> (try simp only [ZC, reduceCtorEq, ZD] at hc) <;> (try exact absurd hc (by decide)) <;> (try (exfalso; omega))) | refine Rt.mk (And.intro (fun hg => Sm.out ?_) fun hg => Sm.out ?_) | (refine Nu.mk ?_; first | (fail_if_success have := nb1); intro nb1 | (fail_if_success have := nb2); intro nb2 | (fail_if_success have := nb3); intro nb3 | (fail_if_success have := nb4); intro nb4 | (fail_if_success have := nb5); intro nb5 | (fail_if_success have := nb6); intro nb6 | (fail_if_success have := nb7); intro nb7 | (fail_if_success have := nb8); intro nb8 | intro nbz) | (apply Yfr; refine Yf FR fun hFRb FR => ?_) | refine Two.mk ?_ ?_ | (apply Yxc; exact Yx) | refine Cs.mk fun hcs => Sm.out ?_ | go_step | omega | (simp only [maxLen_eq]; omega) | exact trivial
  · (refine OutQ.drop [] _ (List.Perm.refl _) (by simp only [resv, ZK, look, loadv, loadn, loadnm, load1, load1m, hget, ↓reduceIte, Nat.reduceEqDiff, Nat.reduceAdd, Nat.reduceMul, Nat.reduceLeDiff, Nat.reduceLT, reduceCtorEq, TFOuZD, FR.out]) ?_; simp only [resv, resA, ZK, look, loadv, loadn, loadnm, load1, load1m, hget, ↓reduceIte, Nat.reduceEqDiff, Nat.reduceAdd, Nat.reduceMul, Nat.reduceLeDiff, Nat.reduceLT, reduceCtorEq, TFOuZD, FR.out]; exact vw_snn rfl)
  · have hne := FR.out
    refine WP.loop (Γ := Unit) (fun _ => ⟨[(33, iv .i64 0), (32, iv .i64 0), (10, nsl), (8, pt nb3 0), (5, pt nb2 0)], [(nb3, .cells [.lit (.slice none 0 0), iv .u64 0] 2 27), (nb2, .cells [nsl, iv .u64 d] 2 27)]⟩) (fun _ => True) (fun _ => 0) () trivial (Sub.pick (by simp [pickB, hget, hdel, FR.out, hne]) (by simp [look, hne])) ?_
    intro _ _
    have FR : Sm (¬ ((1 : Nat) = 0)) := Sm.mk Nat.one_ne_zero
    have k0 : decide ((0 : Int) < 0) = false := by decide
    first | (have FRx := FR; clear FRx) | have FR := fr0S
    have FA := Sm.mk (And.intro TFOuZD (And.intro k0 hne))
    repeat' first | (apply Sm.mk; refine Ys ?_) | refine WP.seq fun K hK => ?_ | (apply Ob.mk; exact Yo) | refine And.intro (Ob.out ?_) ?_ | refine Y1OuZD ?_ | refine YzOuZD ?_ | (refine WP.cond rfl (fun hc => ?_) (fun hc => ?_) <;> (try simp only [ZC, reduceCtorEq, ZD] at hc) <;> (try exact absurd hc (by decide)) <;> (try (exfalso; omega))) | refine Rt.mk (And.intro (fun hg => Sm.out ?_) fun hg => Sm.out ?_) | (refine Nu.mk ?_; first | (fail_if_success have := nb1); intro nb1 | (fail_if_success have := nb2); intro nb2 | (fail_if_success have := nb3); intro nb3 | (fail_if_success have := nb4); intro nb4 | (fail_if_success have := nb5); intro nb5 | (fail_if_success have := nb6); intro nb6 | (fail_if_success have := nb7); intro nb7 | (fail_if_success have := nb8); intro nb8 | intro nbz) | (apply Yfr; refine Yf FR fun hFRb FR => ?_) | refine Two.mk ?_ ?_ | (apply Yxc; exact Yx) | refine Cs.mk fun hcs => Sm.out ?_ | go_step | omega | (simp only [maxLen_eq]; omega) | exact trivial
    (refine OutQ.drop [] _ (List.Perm.refl _) (by simp only [resv, ZK, look, loadv, loadn, loadnm, load1, load1m, hget, ↓reduceIte, Nat.reduceEqDiff, Nat.reduceAdd, Nat.reduceMul, Nat.reduceLeDiff, Nat.reduceLT, reduceCtorEq, TFOuZD, FR.out]) ?_; simp only [resv, resA, ZK, look, loadv, loadn, loadnm, load1, load1m, hget, ↓reduceIte, Nat.reduceEqDiff, Nat.reduceAdd, Nat.reduceMul, Nat.reduceLeDiff, Nat.reduceLT, reduceCtorEq, TFOuZD, FR.out]; exact vw_snn rfl)
theorem send_ct (nt : Nt) (b : Bx) (now : Int) (hs : List Ky) (n m : Nat) (hn : b.l.length = n) (hm : hs.length = m) (hl : n ≤ 100000) (hml : m ≤ 100000) (hz : ∀ e ∈ b.l, Kz e.k) :
    ACt Tryd.prog 25 [ntv nt, .agg [.sl n (ecs b.l), iv .u64 b.d], iv .i64 now, .sl m (kcs hs)] [] (Fn (snR nt b now hs)) :=
  box_arg (pre := [ntv nt]) (post := [iv .i64 now, .sl m (kcs hs)]) hn hl (fun X hX hC => send_row nt b now hs n m hn hm hl hml hz hX hC) (fun h cap => by
    obtain ⟨l, d⟩ := b
    obtain rfl : l = [] := h
    exact send_nil nt d now hs cap m)
end Go.Proofs.YtfknbndmabogjaaDoor
