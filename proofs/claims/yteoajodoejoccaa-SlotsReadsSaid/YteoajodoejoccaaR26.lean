/-
  The walks and the laws that the statement leans on, part 26.
-/
import Derived.Test.YteoajodoejoccaaR11
import Derived.Test.YteoajodoejoccaaR19
import Derived.Test.YteoajodoejoccaaR20
import Derived.Test.YteoajodoejoccaaR24
import Derived.Test.YteoajodoejoccaaR25
namespace Go.Proofs.Yteoajodoejoccaa.Wi
open Go
set_option linter.unusedVariables false
set_option linter.unusedSimpArgs false
set_option linter.defProp false
def TFWiG :=
  And.intro (And.intro (And.intro (And.intro (And.intro tyc0 (And.intro tyc2 zmb2)) (And.intro tyc3 (And.intro zmb3 tyc4))) (And.intro (And.intro zmb4 (And.intro tyc5 zmb5)) (And.intro tyc9 (And.intro zmb9 tyc35)))) (And.intro (And.intro (And.intro zmb35 (And.intro tyc36 elt36)) (And.intro mkz36 (And.intro apT36 elk36))) (And.intro (And.intro zmb36 (And.intro tyc82 foff82_0)) (And.intro fpart82_0 (And.intro foff82_1 fpart82_1))))) (And.intro (And.intro (And.intro (And.intro foff82_2 (And.intro fpart82_2 foff82_3)) (And.intro fpart82_3 (And.intro fe82 zmb82))) (And.intro (And.intro bldT82 (And.intro tyc86 foff86_0)) (And.intro fpart86_0 (And.intro foff86_1 fpart86_1)))) (And.intro (And.intro (And.intro fe86 (And.intro zmb86 bldT86)) (And.intro Try.underlying0 (And.intro Try.underlying2 Try.underlying3))) (And.intro (And.intro Try.underlying4 (And.intro Try.underlying5 Try.underlying9)) (And.intro (And.intro Try.underlying35 Try.underlying36) (And.intro Try.underlying82 Try.underlying86)))))
theorem Y1WiG {G R : Prop} (r : R) (h : R → G := by intro r; first | (apply WP.region; exact rvc_sound _ _ (Sm.out r)) | exact WP.drawS (is := 13) (k := 16) mixed (by decide +kernel) (by decide +kernel) (Sm.out r) | exact WP.drawK rfl mixed (by decide +kernel) (Sm.out r) | (apply WP.block; exact r) | (apply WP.skip; exact Yq r) | (apply WP.exit; exact Yq r) | (apply WP.ret; exact Sm.out r) | exact WP.cond rfl (fun _ => r) (fun hg => absurd hg (by decide)) | exact WP.cond rfl (fun hg => absurd hg (by decide)) (fun _ => r) | exact Rt.mk (And.intro (fun _ => Sm.out r) fun hg => absurd hg (by decide)) | exact Rt.mk (And.intro (fun hg => absurd hg (by decide)) fun _ => Sm.out r)) : G := h r
theorem YzWiG {G R : Prop} (r : R) (h : R → G := by intro r; first | (apply ExG.no; exact Sm.out r) | (apply Or.inl; apply ExG.no; exact Sm.out r) | exact Or.inl (And.intro (fun hg => absurd hg (by decide)) (ExG.no (Sm.out r)))) : G := h r
set_option maxRecDepth 8000 in
set_option maxHeartbeats 8000000 in
theorem refG_good0 (Z t : List Int) (at_ m KK : Nat) (kind most : Int) (h : Z.drop at_ = (m : Int) :: t) (hb : By t) (hz : Z.length ≤ 6000) (kk0 : kind = 0) (h3 : kind ≠ 3) (hm : m < 256) (hH : HeadK kind m KK false)
    (hk : KK ≤ 8 ∧ KK ≤ t.length ∧ (KK = 0 ∨ t.getD 0 0 ≠ 0)) (hm1 : -9223372036854775808 ≤ most) (hm2 : most ≤ 9223372036854775807) :
    ACt Try.prog 47 [.slz .u8 Z, iv .i64 (at_ : Int), .agg [iv .i64 kind, iv .i64 most]] [] (Post3 Z.length (tailF kind most false (valL (t.take KK)) (t.drop KK))) := by
  obtain ⟨h1, h2, h3', h4, h5⟩ := drop_facts h
  have h50 := h5 0
  rw [Nat.add_zero] at h50
  obtain ⟨N, hN⟩ : ∃ N, N = valL (t.take KK) := ⟨_, rfl⟩
  obtain ⟨r, hr⟩ : ∃ r, r = t.drop KK := ⟨_, rfl⟩
  have hrl : r.length = t.length - KK := by rw [hr]; simp
  have hlt : ∀ j, j ≤ KK → valL (t.take j) < 256 ^ j := fun j hj => by
    have := valL_lt (hb.take j)
    rwa [show (t.take j).length = j by simp; omega] at this
  have hNlt : N < 18446744073709551616 := by
    have := hlt KK (Nat.le_refl _)
    have h8 : (256 : Nat) ^ KK ≤ 256 ^ 8 := Nat.pow_le_pow_right (by omega) hk.1
    omega
  have hZr : Z.drop (at_ + 1 + KK) = r := by rw [hr, h2, List.drop_drop]
  rw [← hN, ← hr]
  have hT := tailF kind most false N r
  refine ACt.intro Try.func47 rfl (by kernel_rfl) (by simp [Try.ntmps47]) (fun cx => ?_)
  simp only [argE, Try.ntmps47, Try.results47]
  have d : decide ((at_ : Int) ≥ (Z.length : Int)) = false := by simp; omega
  have z : (kind == 3) = false := beq_eq_false_iff_ne.2 h3
  have w : IntKind.i64.wrap ((at_ : Int) + 1) = ((at_ + 1 : Nat) : Int) := by rw [wrap_i64 (by omega) (by omega)]; omega
  have w1 : IntKind.i64.wrap (m : Int) = (m : Int) := wrap_i64_nat (by omega)
  have w2 : IntKind.i64.wrap ((Z.length : Int) - at_) = ((t.length + 1 : Nat) : Int) := by rw [wrap_i64 (by omega) (by omega)]; omega
  have w3 : IntKind.i64.wrap (((t.length + 1 : Nat) : Int) - 1) = (t.length : Int) := by rw [wrap_i64 (by omega) (by omega)]; omega
  have e1 : (m : Int).tdiv 16 = ((m / 16 : Nat) : Int) := by rw [Int.tdiv_eq_ediv_of_nonneg (by omega)]; simp
  have e2 : IntKind.i64.wrap ((m / 16 : Nat) : Int) = ((m / 16 : Nat) : Int) := wrap_i64_nat (by omega)
  have e3 : ((m / 16 : Nat) : Int).tmod 2 = ((m / 16 % 2 : Nat) : Int) := by rw [Int.tmod_eq_emod_of_nonneg (by omega)]; simp
  have e4 : IntKind.i64.wrap ((m / 16 % 2 : Nat) : Int) = ((m / 16 % 2 : Nat) : Int) := wrap_i64_nat (by omega)
  have g1 : decide ((KK : Int) > 8) = false := by simp; omega
  have g2 : decide ((KK : Int) > (t.length : Int)) = false := by simp; omega
  have q : ∃ q2 : Bool, (((m / 16 % 2 : Nat) : Int) == 1) = q2 ∧ ((kind == 1) && q2) = false ∧ m = KK := by
    rcases hH with ⟨p1, p2, p3⟩ | ⟨p1, p0, p2, p3⟩ | ⟨p1, p0, p2, p3⟩
    · exact ⟨_, rfl, by rw [show (kind == 1) = false from beq_eq_false_iff_ne.2 p1]; rfl, p2.symm⟩
    · exact ⟨_, rfl, by rw [show (((m / 16 % 2 : Nat) : Int) == 1) = false from beq_eq_false_iff_ne.2 (by omega), Bool.and_false], p2.symm⟩
    · cases p3
  obtain ⟨q2, f2, f3, f4⟩ := q
  obtain rfl : KK = m := f4.symm
  clear hH
  first | (have FRx := FR; clear FRx) | have FR := fr0
  have FA := Sm.mk (And.intro TFWiG (And.intro d (And.intro z (And.intro w (And.intro w1 (And.intro w2 (And.intro w3 (And.intro e1 (And.intro e2 (And.intro e3 (And.intro e4 (And.intro f2 (And.intro f3 (And.intro h4 (And.intro h50 (And.intro g1 g2))))))))))))))))
  repeat' first | (apply Sm.mk; refine Ysn ?_) | refine WP.seq fun K hK => ?_ | (apply Ob.mk; exact Yo) | refine And.intro (Ob.out ?_) ?_ | refine Y1WiG ?_ | refine YzWiG ?_ | (refine WP.cond rfl (fun hc => ?_) (fun hc => ?_) <;> (try simp only [ZC, reduceCtorEq, ZD] at hc) <;> (try exact absurd hc (by decide)) <;> (try (exfalso; omega))) | refine Rt.mk (And.intro (fun hg => Sm.out ?_) fun hg => Sm.out ?_) | (refine Nu.mk ?_; first | (fail_if_success have := nb1); intro nb1 | (fail_if_success have := nb2); intro nb2 | (fail_if_success have := nb3); intro nb3 | intro nbz) | (refine Fr.mk ?_; intro hfr; replace FR := And.intro hfr FR; clear hfr; refine Sm.out ?_) | refine Two.mk ?_ ?_ | (apply Yxc; exact Yx) | refine Cs.mk fun hcs => Sm.out ?_ | go_step | omega | (simp only [maxLen_eq]; omega) | exact trivial
  clear g1 g2 e1 e2 e3 e4 w2 w3
  refine WP.loop (Γ := GG) (fun g => ⟨[(13, iv .i64 g.j), (10, iv .i64 KK), (12, nu (valL (t.take g.j))), (0, .slz .u8 Z), (1, iv .i64 at_), (11, bv false), (5, pt nb1 0), (6, pt nb2 0), (9, pt nb3 0)],
    [(nb1, .cells [iv .i64 kind, iv .i64 most] 2 86), (nb2, .cells [iv .u64 0, iv .i64 0, eS, bv false] 4 82), (nb3, .cells [iv .u64 0, iv .i64 0, eS, bv false] 4 82)]⟩) (fun g => g.j ≤ KK) (fun g => KK - g.j) ⟨0⟩ (by simp) (Sub.pick (by simp [pickB, hget, hdel, FR, valL]) (by simp [look, valL])) ?_
  intro ⟨j⟩ hj
  simp only at hj ⊢
  (refine WP.nd fun hnd => ?_; simp only [ndF, fresh_cons, fresh_nil, and_true, ne_eq] at hnd; replace FR := And.intro hnd FR; clear hnd)
  by_cases hjk : j < KK
  · have k1 : decide ((j : Int) < KK) = true := by simp; omega
    obtain ⟨c, hc0⟩ : ∃ c : Nat, t.getD j 0 = (c : Int) ∧ c ≤ 255 := by
      have hjt : j < t.length := by omega
      have := hb (t.getD j 0) (by rw [List.getD_eq_getElem?_getD, List.getElem?_eq_getElem hjt, Option.getD_some]; exact List.getElem_mem hjt)
      obtain ⟨c, hc⟩ := Int.eq_ofNat_of_zero_le this.1
      exact ⟨c, hc, by omega⟩
    have vj := valL_take (l := t) (i := j) (by omega)
    rw [hc0.1, Int.toNat_natCast] at vj
    have hv1 := hlt j (by omega)
    have h8 : (256 : Nat) ^ j ≤ 256 ^ 7 := Nat.pow_le_pow_right (by omega) (by omega)
    obtain ⟨V, hV⟩ : ∃ V, V = valL (t.take j) := ⟨_, rfl⟩
    rw [← hV] at vj hv1 ⊢
    have a1 : IntKind.u64.wrap (256 * (V : Int)) = ((256 * V : Nat) : Int) := by rw [show 256 * (V : Int) = ((256 * V : Nat) : Int) by simp, wrap_u64_nat (by omega)]
    have a2 : IntKind.i64.wrap (((at_ + 1 : Nat) : Int) + (j : Int)) = ((at_ + 1 + j : Nat) : Int) := by rw [wrap_i64 (by omega) (by omega)]; omega
    have a3 : Z.getD (at_ + 1 + j) 0 = (c : Int) := by rw [h5, hc0.1]
    have a4 : IntKind.u64.wrap (c : Int) = (c : Int) := wrap_u64_nat (by omega)
    have a5 : IntKind.u64.wrap (((256 * V : Nat) : Int) + (c : Int)) = ((V * 256 + c : Nat) : Int) := by rw [wrap_u64 (by omega) (by omega)]; omega
    have a6 : IntKind.i64.wrap ((j : Int) + 1) = ((j + 1 : Nat) : Int) := by rw [wrap_i64 (by omega) (by omega)]; omega
    first | (have FRx := FR; clear FRx) | have FR := fr0
    have FA := Sm.mk (And.intro TFWiG (And.intro k1 (And.intro w (And.intro a1 (And.intro a2 (And.intro a3 (And.intro a4 (And.intro a5 a6))))))))
    repeat' first | (apply Sm.mk; refine Ysn ?_) | refine WP.seq fun K hK => ?_ | (apply Ob.mk; exact Yo) | refine And.intro (Ob.out ?_) ?_ | refine Y1WiG ?_ | refine YzWiG ?_ | (refine WP.cond rfl (fun hc => ?_) (fun hc => ?_) <;> (try simp only [ZC, reduceCtorEq, ZD] at hc) <;> (try exact absurd hc (by decide)) <;> (try (exfalso; omega))) | refine Rt.mk (And.intro (fun hg => Sm.out ?_) fun hg => Sm.out ?_) | (refine Nu.mk ?_; first | (fail_if_success have := nb1); intro nb1 | (fail_if_success have := nb2); intro nb2 | (fail_if_success have := nb3); intro nb3 | intro nbz) | (refine Fr.mk ?_; intro hfr; replace FR := And.intro hfr FR; clear hfr; refine Sm.out ?_) | refine Two.mk ?_ ?_ | (apply Yxc; exact Yx) | refine Cs.mk fun hcs => Sm.out ?_ | go_step | omega | (simp only [maxLen_eq]; omega) | exact trivial
    exact ⟨⟨j + 1⟩, by simp only; omega, by simp only; omega, (Sub.pick (by simp [pickB, hget, hdel, FR, vj]) (by simp [look, vj]))⟩
  · have k1 : decide ((j : Int) < KK) = false := by simp; omega
    obtain rfl : j = KK := by omega
    have wn : IntKind.i64.wrap (((at_ + 1 : Nat) : Int) + (j : Int)) = ((at_ + 1 + j : Nat) : Int) := by rw [wrap_i64 (by omega) (by omega)]; omega
    have wl : IntKind.i64.wrap ((Z.length : Int) - ((at_ + 1 + j : Nat) : Int)) = (r.length : Int) := by rw [wrap_i64 (by omega) (by omega)]; omega
    have wr : IntKind.u64.wrap (r.length : Int) = (r.length : Int) := wrap_u64_nat (by omega)
    have hN' := hN.symm
    have k0 : (kind == 0) = true := by rw [kk0]; rfl
    first | (have FRx := FR; clear FRx) | have FR := fr0
    have FA := Sm.mk (And.intro TFWiG (And.intro k1 (And.intro w (And.intro wn (And.intro wl (And.intro wr (And.intro hN' k0)))))))
    repeat' first | (apply Sm.mk; refine Ysn ?_) | refine WP.seq fun K hK => ?_ | (apply Ob.mk; exact Yo) | refine And.intro (Ob.out ?_) ?_ | refine Y1WiG ?_ | refine YzWiG ?_ | (refine WP.cond rfl (fun hc => ?_) (fun hc => ?_) <;> (try simp only [ZC, reduceCtorEq, ZD] at hc) <;> (try exact absurd hc (by decide)) <;> (try (exfalso; omega))) | refine Rt.mk (And.intro (fun hg => Sm.out ?_) fun hg => Sm.out ?_) | (refine Nu.mk ?_; first | (fail_if_success have := nb1); intro nb1 | (fail_if_success have := nb2); intro nb2 | (fail_if_success have := nb3); intro nb3 | intro nbz) | (refine Fr.mk ?_; intro hfr; replace FR := And.intro hfr FR; clear hfr; refine Sm.out ?_) | refine Two.mk ?_ ?_ | (apply Yxc; exact Yx) | refine Cs.mk fun hcs => Sm.out ?_ | go_step | omega | (simp only [maxLen_eq]; omega) | exact trivial
    all_goals clear h5 hlt
    all_goals (refine OutQ.all ?_ ?_; (focus (simp only [resv, ZK, look, loadv, loadn, loadnm, load1, load1m, hget, ↓reduceIte, Nat.reduceEqDiff, Nat.reduceAdd, Nat.reduceMul, Nat.reduceLeDiff, Nat.reduceLT, reduceCtorEq, TFWiG, FR])); (simp only [resv, resA, ZK, look, loadv, loadn, loadnm, load1, load1m, hget, ↓reduceIte, Nat.reduceEqDiff, Nat.reduceAdd, Nat.reduceMul, Nat.reduceLeDiff, Nat.reduceLT, reduceCtorEq, TFWiG, FR]))
    unfold tailF
    rw [if_neg (by omega), if_pos kk0]
    exact good3_mk rfl (by omega) rfl
theorem gF_eq {sgn S : Int} {m : Int} {K : Nat} (t : List Int) (h2 : ibit .andNot .u8 m sgn = (K : Int)) (h1 : ibit .and .u8 m sgn = S) :
    gF sgn (m :: t) = if 8 < K ∨ t.length < K ∨ (0 < K ∧ t.getD 0 0 = 0) then none else some (S, valL (t.take K), t.drop K) := by
  rw [gF, h1, h2, Int.toNat_natCast]
theorem refNum_ct (Z : List Int) (hb : By Z) (hz : Z.length ≤ 6000) :
    ACt Try.prog 47 [.slz .u8 Z, iv .i64 0, .agg [iv .i64 0, iv .i64 0]] [] (Post3 Z.length ((nF Z).map fun p => (.agg [nu p.1, iv .i64 0, eS, bv false], p.2))) := by
  cases hd : Z with
  | nil => exact refG_end [] 0 0
  | cons m t =>
    have hbt : By (m :: t) := by rw [← hd]; exact hb
    have hm := hbt m (List.mem_cons_self ..)
    obtain ⟨m, rfl⟩ := Int.eq_ofNat_of_zero_le hm.1
    obtain ⟨k, s, hk, a1, a2, a5, a6, a3, a4⟩ := and256 m (by omega)
    have hg := gF_eq t a3 a4
    have hH : HeadK 0 m m false := .inl ⟨by decide, rfl, rfl⟩
    by_cases hbad : 8 < m ∨ t.length < m ∨ (0 < m ∧ t.getD 0 0 = 0)
    · rw [if_pos hbad] at hg
      have hn : nF ((m : Int) :: t) = none := by unfold nF; rw [hg]; rfl
      rw [hn]
      exact refG_bad ((m : Int) :: t) t 0 m m false 0 0 rfl (by rw [← hd]; exact hz) (by decide) (by omega) hH hbad
    · rw [if_neg hbad] at hg
      have hn : nF ((m : Int) :: t) = some (valL (t.take m), t.drop m) := by unfold nF; rw [hg]; rfl
      rw [hn]
      have hgood : m ≤ 8 ∧ m ≤ t.length ∧ (m = 0 ∨ t.getD 0 0 ≠ 0) := by
        refine ⟨by omega, by omega, ?_⟩
        by_cases h0 : m = 0
        · exact .inl h0
        · exact .inr fun h => hbad (.inr (.inr ⟨by omega, h⟩))
      have := refG_good0 ((m : Int) :: t) t 0 m m 0 0 rfl hbt.tail (by rw [← hd]; exact hz) rfl (by decide) (by omega) hH hgood (by omega) (by omega)
      unfold tailF at this
      rw [if_neg (by decide), if_pos rfl] at this
      exact this
end Go.Proofs.Yteoajodoejoccaa.Wi
namespace Go.Proofs.Yteoajodoejoccaa
open Go
set_option linter.unusedVariables false
set_option linter.unusedSimpArgs false
set_option linter.defProp false
def TFSlA :=
  And.intro (And.intro (And.intro (And.intro (And.intro tyc0 tyc3) (And.intro zmb3 tyc4)) (And.intro (And.intro zmb4 tyc5) (And.intro zmb5 tyc36))) (And.intro (And.intro (And.intro elt36 mkz36) (And.intro apT36 elk36)) (And.intro (And.intro zmb36 tyc90) (And.intro mth90_68 mth90_61)))) (And.intro (And.intro (And.intro (And.intro mth90_67 con90) (And.intro zmb90 tyc100)) (And.intro (And.intro foff100_0 fpart100_0) (And.intro foff100_1 fpart100_1))) (And.intro (And.intro (And.intro zmb100 bldT100) (And.intro Try.underlying0 Try.underlying3)) (And.intro (And.intro Try.underlying4 Try.underlying5) (And.intro Try.underlying36 (And.intro Try.underlying90 Try.underlying100)))))
theorem Y1SlA {G R : Prop} (r : R) (h : R → G := by intro r; first | (apply WP.region; exact rvc_sound _ _ (Sm.out r)) | exact WP.drawK rfl mixed (by decide +kernel) (Sm.out r) | (apply WP.block; exact r) | (apply WP.skip; exact Yq r) | (apply WP.exit; exact Yq r) | (apply WP.ret; exact Sm.out r) | exact WP.cond rfl (fun _ => r) (fun hg => absurd hg (by decide)) | exact WP.cond rfl (fun hg => absurd hg (by decide)) (fun _ => r) | exact Rt.mk (And.intro (fun _ => Sm.out r) fun hg => absurd hg (by decide)) | exact Rt.mk (And.intro (fun hg => absurd hg (by decide)) fun _ => Sm.out r)) : G := h r
theorem YzSlA {G R : Prop} (r : R) (h : R → G := by intro r; first | (apply ExG.no; exact Sm.out r) | (apply Or.inl; apply ExG.no; exact Sm.out r) | exact Or.inl (And.intro (fun hg => absurd hg (by decide)) (ExG.no (Sm.out r)))) : G := h r
set_option maxRecDepth 20000 in
theorem new_cr (zs : List Int) : ACt Try.prog 50 [.slz .u8 zs] [] (fun r F' => ∃ x : Nat, r = pt x 0 ∧ F' = [(x, Wi.rd zs false)]) := by
  refine ACt.intro Try.func50 rfl (by kernel_rfl) (by simp [Try.ntmps50]) (fun cx => ?_)
  simp only [argE, Try.ntmps50, Try.results50]
  first | (have FRx := FR; clear FRx) | have FR := fr0S
  have FA := Sm.mk (TFSlA)
  repeat' first | (apply Sm.mk; refine Ys ?_) | refine WP.seq fun K hK => ?_ | (apply Ob.mk; exact Yo) | refine And.intro (Ob.out ?_) ?_ | refine Y1SlA ?_ | refine YzSlA ?_ | (refine WP.cond rfl (fun hc => ?_) (fun hc => ?_) <;> (try simp only [ZC, reduceCtorEq, ZD] at hc) <;> (try exact absurd hc (by decide)) <;> (try (exfalso; omega))) | refine Rt.mk (And.intro (fun hg => Sm.out ?_) fun hg => Sm.out ?_) | (refine Nu.mk ?_; first | (fail_if_success have := nb1); intro nb1 | (fail_if_success have := nb2); intro nb2 | (fail_if_success have := nb3); intro nb3 | (fail_if_success have := nb4); intro nb4 | (fail_if_success have := nb5); intro nb5 | (fail_if_success have := nb6); intro nb6 | intro nbz) | (apply Yfr; refine Yf FR fun hFRb FR => ?_) | refine Two.mk ?_ ?_ | (apply Yxc; exact Yx) | refine Cs.mk fun hcs => Sm.out ?_ | go_step | omega | (simp only [maxLen_eq]; omega) | exact trivial
  (refine OutQ.drop _ _ (perm1 (by simp only [hget, hdel, ↓reduceIte, if_true, if_false, FR.out]; first | done | rfl)) (by simp only [resv, ZK, look, loadv, loadn, loadnm, load1, load1m, hget, ↓reduceIte, Nat.reduceEqDiff, Nat.reduceAdd, Nat.reduceMul, Nat.reduceLeDiff, Nat.reduceLT, reduceCtorEq, TFSlA, FR.out]) ⟨nb1, (by simp only [resv, resA, ZK, look, loadv, loadn, loadnm, load1, load1m, hget, ↓reduceIte, Nat.reduceEqDiff, Nat.reduceAdd, Nat.reduceMul, Nat.reduceLeDiff, Nat.reduceLT, reduceCtorEq, TFSlA, FR.out]; first | done | rfl), rfl⟩)
set_option maxRecDepth 20000 in
theorem leftR (b : Nat) (zs : List Int) : ACt Try.prog 53 [pt b 0] [(b, Wi.rd zs false)] (fun r F' => r = iv .i64 (zs.length : Int) ∧ F' = [(b, Wi.rd zs false)]) := by
  have cB := Wi.badR b zs false
  refine ACt.intro Try.func53 rfl (by kernel_rfl) (by simp [Try.ntmps53]) (fun cx => ?_)
  simp only [argE, Try.ntmps53, Try.results53]
  first | (have FRx := FR; clear FRx) | have FR := fr0S
  have FA := Sm.mk (TFSlA)
  repeat' first | (apply Sm.mk; refine Ys ?_) | refine WP.seq fun K hK => ?_ | (apply Ob.mk; exact Yo) | refine And.intro (Ob.out ?_) ?_ | refine Y1SlA ?_ | refine Yl1 (c := cB) (r := ?_) | refine YzSlA ?_ | (refine WP.cond rfl (fun hc => ?_) (fun hc => ?_) <;> (try simp only [ZC, reduceCtorEq, ZD] at hc) <;> (try exact absurd hc (by decide)) <;> (try (exfalso; omega))) | refine Rt.mk (And.intro (fun hg => Sm.out ?_) fun hg => Sm.out ?_) | (refine Nu.mk ?_; first | (fail_if_success have := nb1); intro nb1 | (fail_if_success have := nb2); intro nb2 | (fail_if_success have := nb3); intro nb3 | (fail_if_success have := nb4); intro nb4 | (fail_if_success have := nb5); intro nb5 | (fail_if_success have := nb6); intro nb6 | intro nbz) | (apply Yfr; refine Yf FR fun hFRb FR => ?_) | refine Two.mk ?_ ?_ | (apply Yxc; exact Yx) | refine Cs.mk fun hcs => Sm.out ?_ | go_step | omega | (simp only [maxLen_eq]; omega) | exact trivial
  (refine OutQ.drop _ _ (perm1 (by simp only [hget, hdel, ↓reduceIte, if_true, if_false, FR.out]; first | done | rfl)) (by simp only [resv, ZK, look, loadv, loadn, loadnm, load1, load1m, hget, ↓reduceIte, Nat.reduceEqDiff, Nat.reduceAdd, Nat.reduceMul, Nat.reduceLeDiff, Nat.reduceLT, reduceCtorEq, TFSlA, FR.out]) ⟨(by simp only [resv, resA, ZK, look, loadv, loadn, loadnm, load1, load1m, hget, ↓reduceIte, Nat.reduceEqDiff, Nat.reduceAdd, Nat.reduceMul, Nat.reduceLeDiff, Nat.reduceLT, reduceCtorEq, TFSlA, FR.out]; first | done | rfl), rfl⟩)
def slV (D : List Int) (k : Nat) : Nat × List Int := match Wi.nF D with
  | none => (0, [])
  | some (n, q) => if n = 0 ∨ n % 2 ≠ k then (0, []) else (n, q)
def slF (R : Bs) (k : Nat) : Nat × List Int := if IsF R then slV (ub (bodyB R)) k else (0, [])
theorem by_ub (bs : List UInt8) : Wi.By (ub bs) := by
  intro x hx
  unfold ub at hx
  obtain ⟨b, _, rfl⟩ := List.mem_map.1 hx
  have := b.toNat_lt
  omega
end Go.Proofs.Yteoajodoejoccaa
