/-
  The walks and the laws that the statement leans on, part 22.
-/
import Derived.Test.YtfknbndmabogjaaDoorE10
import Derived.Test.YtfknbndmabogjaaDoorE20
namespace Go.Proofs.YtfknbndmabogjaaDoor
open Go
set_option linter.unusedVariables false
set_option linter.unusedSimpArgs false
set_option linter.defProp false
def TFOuJ :=
  And.intro (And.intro (And.intro (And.intro (And.intro (And.intro tyc0 tyc2) (And.intro zmb2 tyc3)) (And.intro (And.intro zmb3 tyc4) (And.intro zmb4 (And.intro tyc23 foff23_0)))) (And.intro (And.intro (And.intro fpart23_0 foff23_1) (And.intro fpart23_1 (And.intro foff23_2 fpart23_2))) (And.intro (And.intro foff23_3 fpart23_3) (And.intro foff23_4 (And.intro fpart23_4 fe23))))) (And.intro (And.intro (And.intro (And.intro zmb23 bldT23) (And.intro tyc24 elt24)) (And.intro (And.intro mkz24 mkc24) (And.intro apT24 (And.intro elk24 zmb24)))) (And.intro (And.intro (And.intro tyc25 zmb25) (And.intro tyc27 (And.intro foff27_0 fpart27_0))) (And.intro (And.intro foff27_1 fpart27_1) (And.intro zmb27 (And.intro bldT27 tyc29)))))) (And.intro (And.intro (And.intro (And.intro (And.intro foff29_0 fpart29_0) (And.intro foff29_1 fpart29_1)) (And.intro (And.intro foff29_2 fpart29_2) (And.intro foff29_3 (And.intro fpart29_3 foff29_4)))) (And.intro (And.intro (And.intro fpart29_4 fe29) (And.intro zmb29 (And.intro bldT29 tyc34))) (And.intro (And.intro zmb34 tyc38) (And.intro foff38_0 (And.intro fpart38_0 foff38_1))))) (And.intro (And.intro (And.intro (And.intro fpart38_1 foff38_2) (And.intro fpart38_2 (And.intro foff38_3 fpart38_3))) (And.intro (And.intro foff38_4 fpart38_4) (And.intro zmb38 (And.intro bldT38 Tryd.underlying0)))) (And.intro (And.intro (And.intro Tryd.underlying2 Tryd.underlying3) (And.intro Tryd.underlying4 (And.intro Tryd.underlying23 Tryd.underlying24))) (And.intro (And.intro Tryd.underlying25 Tryd.underlying27) (And.intro Tryd.underlying29 (And.intro Tryd.underlying34 Tryd.underlying38))))))
theorem Y1OuJ {G R : Prop} (r : R) (h : R → G := by intro r; first | (apply WP.region; exact rvc_sound _ _ (Sm.out r)) | exact WP.drawK rfl mixed (by decide +kernel) (Sm.out r) | (apply WP.block; exact r) | (apply WP.skip; exact Yq r) | (apply WP.exit; exact Yq r) | (apply WP.ret; exact Sm.out r) | exact WP.cond rfl (fun _ => r) (fun hg => absurd hg (by decide)) | exact WP.cond rfl (fun hg => absurd hg (by decide)) (fun _ => r) | exact Rt.mk (And.intro (fun _ => Sm.out r) fun hg => absurd hg (by decide)) | exact Rt.mk (And.intro (fun hg => absurd hg (by decide)) fun _ => Sm.out r)) : G := h r
theorem YzOuJ {G R : Prop} (r : R) (h : R → G := by intro r; first | (apply ExG.no; exact Sm.out r) | (apply Or.inl; apply ExG.no; exact Sm.out r) | exact Or.inl (And.intro (fun hg => absurd hg (by decide)) (ExG.no (Sm.out r)))) : G := h r
theorem vw_adn {d e : Int} {R : AV} (hR : R = .tup [.agg [.sl 0 [], iv .u64 d], iv .i64 e]) : Vw [] (.tup [.agg [nsl, iv .u64 d], iv .i64 e]) R := by
  subst hR
  exact .tup rfl fun i hi => by
    match i, hi with
    | 0, _ => exact vw_nil
    | 1, _ => exact .same _
set_option maxHeartbeats 4000000 in
theorem adm_nil (nt : Nt) (d : Int) (k : Ky) (now : Int) (cap : Nat) (hzk : Kz k) (hd0 : 0 ≤ d) :
    ACt Tryd.prog 13 [ntv nt, .agg [.lit (.slice none 0 cap), iv .u64 d], kv k, iv .i64 now] [] (fun r F' => Vw F' r (adR nt ⟨[], d⟩ k now)) := by
  have cO := own_nil d cap
  have cN := notify_ct nt
  have cR := bright_ct ⟨[], d⟩ 0 rfl (by omega) (fun e he => by cases he)
  have cK := kright_ct k hzk
  have cT := tick_ct now
  have cF := find_ct ⟨[], d⟩ k 0 rfl (by omega)
  have cM := room_ct nt ⟨[], d⟩ k 0
  have hrm := rm_eq (n := nt) (b := ⟨[], d⟩) (k := k)
  have hbd := bx_d (b := ⟨[], d⟩)
  have hA1 := ad_arg (n := nt) (b := ⟨[], d⟩) (k := k) (now := now)
  have hA2 := ad_known (n := nt) (b := ⟨[], d⟩) (k := k) (now := now)
  have hA3 := ad_full (n := nt) (b := ⟨[], d⟩) (k := k) (now := now)
  have hA4 := ad_fine (n := nt) (b := ⟨[], d⟩) (k := k) (now := now)
  have he : ecs [] = [] := rfl
  simp only [List.length_nil, he] at cO cR cF cM hrm hbd hA1 hA2 hA3 hA4
  obtain ⟨R, hR⟩ : ∃ R, R = adR nt ⟨[], d⟩ k now := ⟨_, rfl⟩
  rw [← hR] at hA1 hA2 hA3 hA4 ⊢
  obtain ⟨p1, h1⟩ : ∃ p, ntB nt = p := ⟨_, rfl⟩
  obtain ⟨p2, h2⟩ : ∃ p, bxB ⟨[], d⟩ = p := ⟨_, rfl⟩
  obtain ⟨p3, h3⟩ : ∃ p, krB k = p := ⟨_, rfl⟩
  obtain ⟨p4, h4⟩ : ∃ p, tkB now = p := ⟨_, rfl⟩
  obtain ⟨x, hx⟩ : ∃ x : Int, ixE [] k 0 = x := ⟨_, rfl⟩
  obtain ⟨m, hm⟩ : ∃ m, decide (((0 : Nat) : Int) < rmI nt k) = m := ⟨_, rfl⟩
  rw [h1] at cN hA1 hA2 hA3 hA4 hrm
  rw [h2] at cR hA1 hA2 hA3 hA4 hbd
  rw [h3] at cK hA1 hA2 hA3 hA4
  rw [h4] at cT hA1 hA2 hA3 hA4
  rw [hx] at cF hA2 hA3 hA4
  rw [hm] at cM hrm
  clear hR h1 h2 h3 h4 hx hm
  obtain ⟨ro, re, fi, ca, rp⟩ := nt
  obtain ⟨kg, kr, kp, ke, ks⟩ := k
  refine ACt.intro Tryd.func13 rfl (by kernel_rfl) (by simp [Tryd.ntmps13]) (fun cx => ?_)
  simp only [argE, Tryd.ntmps13, Tryd.results13]
  have cR2 : ACt Tryd.prog 16 [.agg [nsl, iv .u64 d]] [] (Fn (bv p2)) := cR.view rfl ⟨vw_nil, trivial⟩
  have cF2 : ACt Tryd.prog 17 [.agg [nsl, iv .u64 d], kv ⟨kg, kr, kp, ke, ks⟩] [] (Fn (iv .i64 x)) := cF.view rfl ⟨vw_nil, .same _, trivial⟩
  have cM2 : ACt Tryd.prog 45 [ntv ⟨ro, re, fi, ca, rp⟩, .agg [nsl, iv .u64 d], kv ⟨kg, kr, kp, ke, ks⟩] [] (Fn (bv m)) := cM.view rfl ⟨.same _, vw_nil, .same _, trivial⟩
  clear cR cF cM
  obtain ⟨z, hz⟩ : ∃ z, decide (x ≥ 0) = z := ⟨_, rfl⟩
  first | (have FRx := FR; clear FRx) | have FR := fr0S
  have FA := Sm.mk (And.intro TFOuJ hz)
  repeat' first | (apply Sm.mk; refine Ys ?_) | refine WP.seq fun K hK => ?_ | (apply Ob.mk; exact Yo) | refine And.intro (Ob.out ?_) ?_ | refine Y1OuJ ?_ | refine Yc (c := cO) (r := ?_) | refine Yc (c := cN) (r := ?_) | refine Yc (c := cR2) (r := ?_) | refine Yc (c := cK) (r := ?_) | refine Yc (c := cT) (r := ?_) | refine Yc (c := cF2) (r := ?_) | refine Yc (c := cM2) (r := ?_) | refine YzOuJ ?_ | (refine WP.cond rfl (fun hc => ?_) (fun hc => ?_) <;> (try simp only [ZC, reduceCtorEq, ZD] at hc) <;> (try exact absurd hc (by decide)) <;> (try (exfalso; omega))) | refine Rt.mk (And.intro (fun hg => Sm.out ?_) fun hg => Sm.out ?_) | (refine Nu.mk ?_; first | (fail_if_success have := nb1); intro nb1 | (fail_if_success have := nb2); intro nb2 | (fail_if_success have := nb3); intro nb3 | (fail_if_success have := nb4); intro nb4 | (fail_if_success have := nb5); intro nb5 | (fail_if_success have := nb6); intro nb6 | (fail_if_success have := nb7); intro nb7 | (fail_if_success have := nb8); intro nb8 | (fail_if_success have := nb9); intro nb9 | (fail_if_success have := nb10); intro nb10 | (fail_if_success have := nb11); intro nb11 | (fail_if_success have := nb12); intro nb12 | (fail_if_success have := nb13); intro nb13 | (fail_if_success have := nb14); intro nb14 | intro nbz) | (apply Yfr; refine Yf FR fun hFRb FR => ?_) | refine Two.mk ?_ ?_ | (apply Yxc; exact Yx) | refine Cs.mk fun hcs => Sm.out ?_ | go_step | omega | (simp only [maxLen_eq]; omega) | exact trivial
  · have hp : (p1 && p2 && p3 && p4) = false := by
      revert hc
      cases p1 <;> cases p2 <;> cases p3 <;> cases p4 <;> simp
    (refine OutQ.drop [] _ (List.Perm.refl _) (by simp only [resv, ZK, look, loadv, loadn, loadnm, load1, load1m, hget, ↓reduceIte, Nat.reduceEqDiff, Nat.reduceAdd, Nat.reduceMul, Nat.reduceLeDiff, Nat.reduceLT, reduceCtorEq, TFOuJ, FR.out]) ?_; simp only [resv, resA, ZK, look, loadv, loadn, loadnm, load1, load1m, hget, ↓reduceIte, Nat.reduceEqDiff, Nat.reduceAdd, Nat.reduceMul, Nat.reduceLeDiff, Nat.reduceLT, reduceCtorEq, TFOuJ, FR.out]; exact vw_adn (hA1 hp))
  · rename_i hcA
    have hp : (p1 && p2 && p3 && p4) = true := by rw [hcA.1.1.1, hcA.1.1.2, hcA.1.2, hcA.2]; rfl
    have hx0 : 0 ≤ x := by rw [hc] at hz; exact of_decide_eq_true hz
    (refine OutQ.drop [] _ (List.Perm.refl _) (by simp only [resv, ZK, look, loadv, loadn, loadnm, load1, load1m, hget, ↓reduceIte, Nat.reduceEqDiff, Nat.reduceAdd, Nat.reduceMul, Nat.reduceLeDiff, Nat.reduceLT, reduceCtorEq, TFOuJ, FR.out]) ?_; simp only [resv, resA, ZK, look, loadv, loadn, loadnm, load1, load1m, hget, ↓reduceIte, Nat.reduceEqDiff, Nat.reduceAdd, Nat.reduceMul, Nat.reduceLeDiff, Nat.reduceLT, reduceCtorEq, TFOuJ, FR.out]; exact vw_adn (hA2 hp hx0))
  · rename_i hcA hcB
    have hp : (p1 && p2 && p3 && p4) = true := by rw [hcA.1.1.1, hcA.1.1.2, hcA.1.2, hcA.2]; rfl
    have hx0 : ¬ 0 ≤ x := by rw [hcB] at hz; exact of_decide_eq_false hz
    have hdM := hbd hcA.1.1.2
    have hA := hA3 hp hx0 (by rw [← hrm hcA.1.1.1]; exact hc)
    have w1 : IntKind.u64.wrap (d + 1) = d + 1 := wrap_u64 (by omega) (by omega)
    have w2 : (if 9223372036854775807 < IntKind.u64.wrap (d + 1) then 9223372036854775807 else IntKind.u64.wrap (d + 1)) = (if d < 9223372036854775807 then d + 1 else d) := by
      rw [w1]
      split <;> split <;> omega
    (refine OutQ.drop [] _ (List.Perm.refl _) (by simp only [resv, ZK, look, loadv, loadn, loadnm, load1, load1m, hget, ↓reduceIte, Nat.reduceEqDiff, Nat.reduceAdd, Nat.reduceMul, Nat.reduceLeDiff, Nat.reduceLT, reduceCtorEq, TFOuJ, FR.out]) ?_; simp only [resv, resA, ZK, look, loadv, loadn, loadnm, load1, load1m, hget, ↓reduceIte, Nat.reduceEqDiff, Nat.reduceAdd, Nat.reduceMul, Nat.reduceLeDiff, Nat.reduceLT, reduceCtorEq, TFOuJ, FR.out]; exact vw_adn (hA.trans (by rw [w2])))
  · rename_i hcA hcB g1 g2
    have hp : (p1 && p2 && p3 && p4) = true := by rw [hcA.1.1.1, hcA.1.1.2, hcA.1.2, hcA.2]; rfl
    have hx0 : ¬ 0 ≤ x := by rw [hcB] at hz; exact of_decide_eq_false hz
    have hA := hA4 hp hx0 (by rw [← hrm hcA.1.1.1]; exact hc)
    (refine OutQ.drop _ _ (perm1 (b := nb6) (by simp only [hget, hdel, ↓reduceIte, if_true, if_false, FR.out]; first | done | rfl)) (by simp only [resv, ZK, look, loadv, loadn, loadnm, load1, load1m, hget, ↓reduceIte, Nat.reduceEqDiff, Nat.reduceAdd, Nat.reduceMul, Nat.reduceLeDiff, Nat.reduceLT, reduceCtorEq, TFOuJ, FR.out]) ?_; simp only [resv, resA, ZK, look, loadv, loadn, loadnm, load1, load1m, hget, ↓reduceIte, Nat.reduceEqDiff, Nat.reduceAdd, Nat.reduceMul, Nat.reduceLeDiff, Nat.reduceLT, reduceCtorEq, TFOuJ, FR.out]; exact vw_ad hA hFRb.1 hFRb.2)
theorem admit_ct (nt : Nt) (b : Bx) (k : Ky) (now : Int) (n : Nat) (hn : b.l.length = n) (hl : n ≤ 100000) (hz : ∀ e ∈ b.l, Kz e.k) (hzk : Kz k) (hd0 : 0 ≤ b.d) : ACt Tryd.prog 13 [ntv nt, .agg [.sl n (ecs b.l), iv .u64 b.d], kv k, iv .i64 now] [] (Fn (adR nt b k now)) := by
  by_cases h1 : 1 ≤ n
  · exact ACt.fzV (adm_row nt b k now n hn hl hz hzk hd0 (.inl ⟨_, _, rfl⟩) (clone_rowS b.l n hn h1 hl))
  obtain rfl : n = 0 := by omega
  obtain ⟨l, d⟩ := b
  simp only at hn hd0 ⊢
  obtain rfl : l = [] := List.eq_nil_of_length_eq_zero hn
  intro cx vs hK hKT hw hs hv
  have h0 := hv 1 (by simp)
  simp only [List.getD_cons_succ, List.getD_cons_zero] at h0
  obtain ⟨a, cap, e, hm, hr⟩ : ∃ a cap, Rep cx.w0 cx.I (vs.getD 1 undef) (.agg [.lit (.slice a 0 cap), iv .u64 d]) ∧ cap ≤ maxLen ∧ True := by
    generalize vs.getD 1 undef = u at h0
    cases h0 with
    | agg us cs hs r =>
      have r0 := r 0 (by simp)
      have r1 := r 1 (by simp)
      simp only [List.getElem_cons_zero, List.getElem_cons_succ] at r0 r1
      generalize hu : us.getD 0 undef = u0 at r0
      cases r0 with
      | sl a n cap cs g hn hm h r =>
        refine ⟨a, cap, .agg us _ hs fun i hi => ?_, hm, trivial⟩
        match i, hi with
        | 0, _ => rw [hu]; exact .lit _
        | 1, _ => exact r1
  have hv' : ∀ i, i < [ntv nt, .agg [.lit (.slice a 0 cap), iv .u64 d], kv k, iv .i64 now].length → Rep cx.w0 cx.I (vs.getD i undef) ([ntv nt, .agg [.lit (.slice a 0 cap), iv .u64 d], kv k, iv .i64 now].getD i .any) := fun i hi => by
    match i, hi with
    | 0, _ => exact hv 0 (by simp)
    | 1, _ => exact e
    | 2, _ => exact hv 2 (by simp)
    | 3, _ => exact hv 3 (by simp)
  cases a with
  | none => exact ACt.fzV (adm_nil nt d k now cap hzk hd0) cx vs hK hKT hw hs hv'
  | some ad => exact ACt.fzV (adm_row nt ⟨[], d⟩ k now 0 rfl (by omega) (fun e he => by cases he) hzk hd0 (.inr ⟨_, _, rfl⟩) (clone_rowZ ad cap hm)) cx vs hK hKT hw hs hv'
end Go.Proofs.YtfknbndmabogjaaDoor
