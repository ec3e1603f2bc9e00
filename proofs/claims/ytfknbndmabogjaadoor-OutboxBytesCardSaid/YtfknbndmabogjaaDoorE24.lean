/-
  The walks and the laws that the statement leans on, part 24.
-/
import Derived.Test.YtfknbndmabogjaaDoorE10
import Derived.Test.YtfknbndmabogjaaDoorE23
namespace Go.Proofs.YtfknbndmabogjaaDoor
open Go
set_option linter.unusedVariables false
set_option linter.unusedSimpArgs false
set_option linter.defProp false
def TFOuL :=
  And.intro (And.intro (And.intro (And.intro (And.intro tyc0 (And.intro tyc2 zmb2)) (And.intro (And.intro tyc3 zmb3) (And.intro tyc4 zmb4))) (And.intro (And.intro tyc23 (And.intro foff23_0 fpart23_0)) (And.intro (And.intro foff23_1 fpart23_1) (And.intro foff23_2 fpart23_2)))) (And.intro (And.intro (And.intro foff23_3 (And.intro fpart23_3 foff23_4)) (And.intro (And.intro fpart23_4 fe23) (And.intro zmb23 bldT23))) (And.intro (And.intro tyc25 (And.intro zmb25 tyc27)) (And.intro (And.intro foff27_0 fpart27_0) (And.intro foff27_1 fpart27_1))))) (And.intro (And.intro (And.intro (And.intro zmb27 (And.intro bldT27 tyc29)) (And.intro (And.intro foff29_0 fpart29_0) (And.intro foff29_1 fpart29_1))) (And.intro (And.intro foff29_2 (And.intro fpart29_2 foff29_3)) (And.intro (And.intro fpart29_3 foff29_4) (And.intro fpart29_4 fe29)))) (And.intro (And.intro (And.intro zmb29 (And.intro bldT29 tyc34)) (And.intro (And.intro zmb34 tyc35) (And.intro Tryd.underlying0 Tryd.underlying2))) (And.intro (And.intro (And.intro Tryd.underlying3 Tryd.underlying4) (And.intro Tryd.underlying23 Tryd.underlying25)) (And.intro (And.intro Tryd.underlying27 Tryd.underlying29) (And.intro Tryd.underlying34 Tryd.underlying35)))))
theorem Y1OuL {G R : Prop} (r : R) (h : R → G := by intro r; first | (apply WP.region; exact rvc_sound _ _ (Sm.out r)) | exact WP.drawK rfl mixed (by decide +kernel) (Sm.out r) | (apply WP.block; exact r) | (apply WP.skip; exact Yq r) | (apply WP.exit; exact Yq r) | (apply WP.ret; exact Sm.out r) | exact WP.cond rfl (fun _ => r) (fun hg => absurd hg (by decide)) | exact WP.cond rfl (fun hg => absurd hg (by decide)) (fun _ => r) | exact Rt.mk (And.intro (fun _ => Sm.out r) fun hg => absurd hg (by decide)) | exact Rt.mk (And.intro (fun hg => absurd hg (by decide)) fun _ => Sm.out r)) : G := h r
theorem YzOuL {G R : Prop} (r : R) (h : R → G := by intro r; first | (apply ExG.no; exact Sm.out r) | (apply Or.inl; apply ExG.no; exact Sm.out r) | exact Or.inl (And.intro (fun hg => absurd hg (by decide)) (ExG.no (Sm.out r)))) : G := h r
theorem rn_one {x : Int} (h : x < 128) : rn [x] = [x] := by
  show rnF [x] 1 0 = [x]
  rw [rnF_succ, if_pos (by simp)]
  have e : elR [x] 0 = (x, 1) := by unfold elR; rw [if_pos (show [x].getD 0 0 < 128 from h)]; rfl
  rw [e]; rfl
theorem nmB_one {x : Int} (h : letB x = true) : nmB [x] = true := nmB_true ⟨by simp, by simp, h, fun i hi => by
  obtain rfl : i = 0 := by simpa using hi
  exact .inl h⟩
abbrev sA : ByteArray := ⟨#[97]⟩
abbrev sR : ByteArray := ⟨#[114]⟩
theorem nm_a : nmS sA = true := by
  unfold nmS
  rw [show ub sA.data.toList = [97] from rfl, rn_one (by decide)]
  exact nmB_one (by decide)
theorem nm_r : nmS sR = true := by
  unfold nmS
  rw [show ub sR.data.toList = [114] from rfl, rn_one (by decide)]
  exact nmB_one (by decide)
abbrev kI (p : Bool) (i : Int) : Ky := ⟨sA, sR, p, i, false⟩
abbrev eI (i : Int) : En := ⟨kI true i, 5, 5, 0, false⟩
abbrev n0 : Nt := ⟨4, 1, 1, 1, 0⟩
def es : Nat → List En
  | 0 => []
  | 1 => [eI 1]
  | 2 => [eI 1, eI 2]
  | _ => [eI 1, eI 2, eI 3]
theorem kzI (p : Bool) (i : Int) : Kz (kI p i) := ⟨(by decide : sA.size ≤ 1000), (by decide : sR.size ≤ 1000)⟩
theorem krI {p : Bool} {i : Int} (h : decide (0 < i) && decide (i ≤ 4611686018427387904)) : krB (kI p i) = true := by
  unfold krB
  rw [nm_a, nm_r]; exact h
theorem erI {i : Int} (h : decide (0 < i) && decide (i ≤ 4611686018427387904)) : erB (eI i) = true := by
  unfold erB
  rw [krI h]; rfl
theorem hzI (j : Nat) : ∀ e ∈ es j, Kz e.k := fun e he => by
  have : ∃ i, e = eI i := by
    match j, he with
    | 0, he => cases he
    | 1, he => exact ⟨_, List.mem_singleton.1 he⟩
    | 2, he =>
      simp only [es, List.mem_cons, List.not_mem_nil, or_false] at he
      rcases he with h | h <;> exact ⟨_, h⟩
    | j + 3, he =>
      simp only [es, List.mem_cons, List.not_mem_nil, or_false] at he
      rcases he with h | h | h <;> exact ⟨_, h⟩
  obtain ⟨i, rfl⟩ := this
  exact kzI _ _
theorem bx0 : bxB ⟨es 0, 0⟩ = true := rfl
theorem bx1 : bxB ⟨es 1, 0⟩ = true := by
  unfold bxB
  simp only [es, rgB, erI (i := 1) rfl, Bool.true_and]
  rfl
theorem bx2 : bxB ⟨es 2, 0⟩ = true := by
  unfold bxB
  simp only [es, rgB, erI (i := 1) rfl, erI (i := 2) rfl, Bool.true_and]
  rfl
theorem bx3 : bxB ⟨es 3, 0⟩ = true := by
  unfold bxB
  simp only [es, rgB, erI (i := 1) rfl, erI (i := 2) rfl, erI (i := 3) rfl, Bool.true_and]
  rfl
theorem nt0 : ntB n0 = true := by decide
theorem adI {R : Prop} {j : Nat} {p : Bool} {i : Int} (hb : bxB ⟨es j, 0⟩ = true) (hi : decide (0 < i) && decide (i ≤ 4611686018427387904)) (h : (ntB n0 && bxB ⟨es j, 0⟩ && krB (kI p i) && tkB 5) = true → R) : R := h (by rw [nt0, hb, krI hi]; rfl)
theorem ad1 : adR n0 ⟨es 0, 0⟩ (kI true 1) 5 = .tup [bxv ⟨es 1, 0⟩, iv .i64 0] := adI bx0 rfl fun h => ad_fine h (by decide) (by decide)
theorem ad2 : adR n0 ⟨es 1, 0⟩ (kI true 2) 5 = .tup [bxv ⟨es 2, 0⟩, iv .i64 0] := adI bx1 rfl fun h => ad_fine h (by decide) (by decide)
theorem ad3 : adR n0 ⟨es 2, 0⟩ (kI true 3) 5 = .tup [bxv ⟨es 3, 0⟩, iv .i64 0] := adI bx2 rfl fun h => ad_fine h (by decide) (by decide)
theorem ad4 : adR n0 ⟨es 3, 0⟩ (kI false 9) 5 = .tup [bxv ⟨es 3, 1⟩, iv .i64 11] := adI (p := false) (i := 9) bx3 rfl fun h => ad_full h (by decide) (by decide)
theorem ad5 : adR n0 ⟨es 3, 0⟩ (kI true 9) 5 = .tup [bxv ⟨es 3 ++ [eI 9], 0⟩, iv .i64 0] := adI bx3 rfl fun h => ad_fine h (by decide) (by decide)
def awX (i : Nat) : AV := if i ≤ 1 then nsl else .sl (es (i - 1)).length (ecs (es (i - 1)))
theorem awX_one (i : Nat) : oneC (awX i) = true := by unfold awX; split <;> rfl
theorem awX_ct (i : Nat) (h1 : 1 ≤ i) (h3 : i ≤ 3) : ACt Tryd.prog 13 [ntv n0, .agg [awX i, iv .u64 0], kv (kI true (i : Int)), iv .i64 5] [] (Fn (.tup [.agg [awX (i + 1), iv .u64 0], iv .i64 0])) := by
  rcases (by omega : i = 1 ∨ i = 2 ∨ i = 3) with rfl | rfl | rfl
  · have h := ACt.fzV (adm_nil n0 0 (kI true 1) 5 0 (kzI _ _) (by omega))
    rw [show adR n0 ⟨[], 0⟩ (kI true 1) 5 = _ from ad1] at h
    exact h
  · have h := admit_ct n0 ⟨es 1, 0⟩ (kI true 2) 5 1 rfl (by omega) (hzI 1) (kzI _ _) (by show (0 : Int) ≤ 0; omega)
    rw [ad2] at h
    exact h
  · have h := admit_ct n0 ⟨es 2, 0⟩ (kI true 3) 5 2 rfl (by omega) (hzI 2) (kzI _ _) (by show (0 : Int) ≤ 0; omega)
    rw [ad3] at h
    exact h
theorem awY_ct : ACt Tryd.prog 13 [ntv n0, .agg [awX 4, iv .u64 0], kv (kI false 9), iv .i64 5] [] (Fn (.tup [.agg [awX 4, iv .u64 1], iv .i64 11])) := by
  have h := admit_ct n0 ⟨es 3, 0⟩ (kI false 9) 5 3 rfl (by omega) (hzI 3) (kzI _ _) (by show (0 : Int) ≤ 0; omega)
  rw [ad4] at h
  exact h
theorem awZ_ct : ∃ Z, oneC Z = true ∧ ACt Tryd.prog 13 [ntv n0, .agg [awX 4, iv .u64 0], kv (kI true 9), iv .i64 5] [] (Fn (.tup [.agg [Z, iv .u64 0], iv .i64 0])) := by
  have h := admit_ct n0 ⟨es 3, 0⟩ (kI true 9) 5 3 rfl (by omega) (hzI 3) (kzI _ _) (by show (0 : Int) ≤ 0; omega)
  rw [ad5] at h
  exact ⟨_, rfl, h⟩
set_option maxHeartbeats 2000000 in
theorem awake_ct : ACt Tryd.prog 8 [] [] (Fn (bv true)) := by
  have c1 := awX_ct
  have c2 := awY_ct
  obtain ⟨Z, hZ, c3⟩ := awZ_ct
  have hX := awX_one
  have h1 : awX 1 = nsl := rfl
  obtain ⟨X, hX'⟩ : ∃ X : Nat → AV, X = awX := ⟨_, rfl⟩
  rw [← hX'] at c1 c2 c3 hX h1
  have hX1 := hX 4
  refine ACt.intro Tryd.func8 rfl (by kernel_rfl) (by simp [Tryd.ntmps8]) (fun cx => ?_)
  simp only [argE, Tryd.ntmps8, Tryd.results8]
  first | (have FRx := FR; clear FRx) | have FR := fr0S
  have FA := Sm.mk (TFOuL)
  repeat' first | (apply Sm.mk; refine Ys ?_) | refine WP.seq fun K hK => ?_ | (apply Ob.mk; exact Yo) | refine And.intro (Ob.out ?_) ?_ | refine Y1OuL ?_ | refine YzOuL ?_ | (refine WP.cond rfl (fun hc => ?_) (fun hc => ?_) <;> (try simp only [ZC, reduceCtorEq, ZD] at hc) <;> (try exact absurd hc (by decide)) <;> (try (exfalso; omega))) | refine Rt.mk (And.intro (fun hg => Sm.out ?_) fun hg => Sm.out ?_) | (refine Nu.mk ?_; first | (fail_if_success have := nb1); intro nb1 | (fail_if_success have := nb2); intro nb2 | (fail_if_success have := nb3); intro nb3 | (fail_if_success have := nb4); intro nb4 | (fail_if_success have := nb5); intro nb5 | (fail_if_success have := nb6); intro nb6 | (fail_if_success have := nb7); intro nb7 | (fail_if_success have := nb8); intro nb8 | (fail_if_success have := nb9); intro nb9 | (fail_if_success have := nb10); intro nb10 | (fail_if_success have := nb11); intro nb11 | (fail_if_success have := nb12); intro nb12 | (fail_if_success have := nb13); intro nb13 | (fail_if_success have := nb14); intro nb14 | intro nbz) | (apply Yfr; refine Yf FR fun hFRb FR => ?_) | refine Two.mk ?_ ?_ | (apply Yxc; exact Yx) | refine Cs.mk fun hcs => Sm.out ?_ | go_step | omega | (simp only [maxLen_eq]; omega) | exact trivial
  have hne : nb2 ≠ nb1 ∧ nb1 ≠ nb2 := by simp [FR.out]
  refine WP.loop (Γ := Nat) (fun i => ⟨[(4, iv .i64 (i : Int)), (3, iv .i64 0), (2, pt nb2 0), (1, pt nb1 0)], [(nb2, .cells [X i, iv .u64 0] 2 27), (nb1, .cells [iv .i64 4, iv .i64 1, iv .i64 1, iv .i64 1, iv .i64 0] 5 23)]⟩) (fun i => 1 ≤ i ∧ i ≤ 4) (fun i => 4 - i) 1 ⟨by omega, by omega⟩ (Sub.pick (by simp [pickB, hget, hdel, FR.out, h1]) (by simp [look, h1])) ?_
  intro i ⟨hi1, hi4⟩
  have FR : Sm (¬ ((1 : Nat) = 0)) := Sm.mk Nat.one_ne_zero
  by_cases hin : i ≤ 3
  · have ki : decide ((i : Int) ≤ 3) = true := decide_eq_true (by omega)
    have s1 : IntKind.i64.wrap ((i : Int) + 1) = ((i + 1 : Nat) : Int) := by rw [wrap_i64 (by omega) (by omega)]; omega
    have s2 : IntKind.u64.wrap (i : Int) = (i : Int) := wrap_u64 (by omega) (by omega)
    have c1 := c1 i hi1 hin
    have hX2 := hX (i + 1)
    have hX3 := hX i
    first | (have FRx := FR; clear FRx) | have FR := fr0S
    have FA := Sm.mk (And.intro TFOuL (And.intro ki (And.intro s1 (And.intro s2 (And.intro hX2 (And.intro hX3 hne))))))
    repeat' first | (apply Sm.mk; refine Ys ?_) | refine WP.seq fun K hK => ?_ | (apply Ob.mk; exact Yo) | refine And.intro (Ob.out ?_) ?_ | refine Y1OuL ?_ | refine Yc (c := c1) (r := ?_) | refine YzOuL ?_ | (refine WP.cond rfl (fun hc => ?_) (fun hc => ?_) <;> (try simp only [ZC, reduceCtorEq, ZD] at hc) <;> (try exact absurd hc (by decide)) <;> (try (exfalso; omega))) | refine Rt.mk (And.intro (fun hg => Sm.out ?_) fun hg => Sm.out ?_) | (refine Nu.mk ?_; first | (fail_if_success have := nb1); intro nb1 | (fail_if_success have := nb2); intro nb2 | (fail_if_success have := nb3); intro nb3 | (fail_if_success have := nb4); intro nb4 | (fail_if_success have := nb5); intro nb5 | (fail_if_success have := nb6); intro nb6 | (fail_if_success have := nb7); intro nb7 | (fail_if_success have := nb8); intro nb8 | (fail_if_success have := nb9); intro nb9 | (fail_if_success have := nb10); intro nb10 | (fail_if_success have := nb11); intro nb11 | (fail_if_success have := nb12); intro nb12 | (fail_if_success have := nb13); intro nb13 | (fail_if_success have := nb14); intro nb14 | intro nbz) | (apply Yfr; refine Yf FR fun hFRb FR => ?_) | refine Two.mk ?_ ?_ | (apply Yxc; exact Yx) | refine Cs.mk fun hcs => Sm.out ?_ | go_step | omega | (simp only [maxLen_eq]; omega) | exact trivial
    exact ⟨i + 1, ⟨by omega, by omega⟩, by omega, (Sub.pick (by simp [pickB, hget, hdel, FR.out, hne]) (by simp [look, hne]))⟩
  · obtain rfl : i = 4 := by omega
    have ki : decide (((4 : Nat) : Int) ≤ 3) = false := by decide
    first | (have FRx := FR; clear FRx) | have FR := fr0S
    have FA := Sm.mk (And.intro TFOuL (And.intro ki (And.intro hX1 (And.intro hZ hne))))
    repeat' first | (apply Sm.mk; refine Ys ?_) | refine WP.seq fun K hK => ?_ | (apply Ob.mk; exact Yo) | refine And.intro (Ob.out ?_) ?_ | refine Y1OuL ?_ | refine Yc (c := c2) (r := ?_) | refine Yc (c := c3) (r := ?_) | refine YzOuL ?_ | (refine WP.cond rfl (fun hc => ?_) (fun hc => ?_) <;> (try simp only [ZC, reduceCtorEq, ZD] at hc) <;> (try exact absurd hc (by decide)) <;> (try (exfalso; omega))) | refine Rt.mk (And.intro (fun hg => Sm.out ?_) fun hg => Sm.out ?_) | (refine Nu.mk ?_; first | (fail_if_success have := nb1); intro nb1 | (fail_if_success have := nb2); intro nb2 | (fail_if_success have := nb3); intro nb3 | (fail_if_success have := nb4); intro nb4 | (fail_if_success have := nb5); intro nb5 | (fail_if_success have := nb6); intro nb6 | (fail_if_success have := nb7); intro nb7 | (fail_if_success have := nb8); intro nb8 | (fail_if_success have := nb9); intro nb9 | (fail_if_success have := nb10); intro nb10 | (fail_if_success have := nb11); intro nb11 | (fail_if_success have := nb12); intro nb12 | (fail_if_success have := nb13); intro nb13 | (fail_if_success have := nb14); intro nb14 | intro nbz) | (apply Yfr; refine Yf FR fun hFRb FR => ?_) | refine Two.mk ?_ ?_ | (apply Yxc; exact Yx) | refine Cs.mk fun hcs => Sm.out ?_ | go_step | omega | (simp only [maxLen_eq]; omega) | exact trivial
    (have FA := Sm.mk (And.intro hX1 (And.intro hZ FA.out)); refine Yg ?_; try exact trivial)
end Go.Proofs.YtfknbndmabogjaaDoor
