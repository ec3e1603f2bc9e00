/-
  The walks and the laws that the statement leans on, part 27.
-/
import Derived.Test.YteoajodoejoccaaP10
import Derived.Test.YteoajodoejoccaaP18
import Derived.Test.YteoajodoejoccaaP20
import Derived.Test.YteoajodoejoccaaP25
import Derived.Test.YteoajodoejoccaaP26
namespace Go.Proofs.Yteoajodoejoccaa
open Go Wi
set_option linter.unusedVariables false
set_option linter.unusedSimpArgs false
set_option linter.defProp false
def TFSlD :=
  And.intro (And.intro (And.intro (And.intro (And.intro tyc0 (And.intro tyc3 zmb3)) (And.intro tyc4 (And.intro zmb4 tyc5))) (And.intro (And.intro zmb5 (And.intro tyc25 mth25_45)) (And.intro (And.intro mth25_44 mth25_43) (And.intro con25 zmb25)))) (And.intro (And.intro (And.intro tyc28 (And.intro zmb28 tyc30)) (And.intro (And.intro mth30_37 con30) (And.intro zmb30 tyc35))) (And.intro (And.intro zmb35 (And.intro tyc36 elt36)) (And.intro (And.intro mkz36 apT36) (And.intro elk36 zmb36))))) (And.intro (And.intro (And.intro (And.intro tyc65 (And.intro foff65_0 fpart65_0)) (And.intro foff65_1 (And.intro fpart65_1 foff65_2))) (And.intro (And.intro fpart65_2 (And.intro foff65_3 fpart65_3)) (And.intro (And.intro foff65_4 fpart65_4) (And.intro foff65_5 fpart65_5)))) (And.intro (And.intro (And.intro zmb65 (And.intro bldT65 tyc66)) (And.intro (And.intro Try.underlying0 Try.underlying3) (And.intro Try.underlying4 Try.underlying5))) (And.intro (And.intro Try.underlying25 (And.intro Try.underlying28 Try.underlying30)) (And.intro (And.intro Try.underlying35 Try.underlying36) (And.intro Try.underlying65 Try.underlying66)))))
theorem Y1SlD {G R : Prop} (r : R) (h : R → G := by intro r; first | (apply WP.region; exact rvc_sound _ _ (Sm.out r)) | exact WP.drawK rfl mixed (by decide +kernel) (Sm.out r) | (apply WP.block; exact r) | (apply WP.skip; exact Yq r) | (apply WP.exit; exact Yq r) | (apply WP.ret; exact Sm.out r) | exact WP.cond rfl (fun _ => r) (fun hg => absurd hg (by decide)) | exact WP.cond rfl (fun hg => absurd hg (by decide)) (fun _ => r) | exact Rt.mk (And.intro (fun _ => Sm.out r) fun hg => absurd hg (by decide)) | exact Rt.mk (And.intro (fun hg => absurd hg (by decide)) fun _ => Sm.out r)) : G := h r
theorem YzSlD {G R : Prop} (r : R) (h : R → G := by intro r; first | (apply ExG.no; exact Sm.out r) | (apply Or.inl; apply ExG.no; exact Sm.out r) | exact Or.inl (And.intro (fun hg => absurd hg (by decide)) (ExG.no (Sm.out r)))) : G := h r
def slW (e : Nat × List Int) : AV := if e.1 = 0 then .lit (.slice none 0 0) else .slz .u8 e.2
def slM (b f m : Nat) (e : Nat × List Int) : MB := .cells [pt b 0, iv .i64 (f : Int), iv .i64 (m : Int), nu e.1, slW e, bv false] 6 65
def slE (A B : Nat × List Int) : Nat → Nat × List Int
  | 0 => (0, [])
  | 1 => slN (0, []) A
  | _ => slN (slN (0, []) A) B
set_option maxRecDepth 20000 in
set_option maxHeartbeats 4000000 in
theorem slopen_ct {c s n : Nat} {W : Bs} (b : Nat) (a : DA) (l : DL) (hA : AOk c a) (hS : Stl s n (ub W) a) (hl : LOk b a l) (f m : Nat) (hfm : f + 2 * m ≤ n) (hm : 1 ≤ m) (hms5 : m * s ≤ 5000) :
    ACt Try.prog 11 [pt b 0, iv .i64 (f : Int), iv .i64 (m : Int)] (dH b a l) (fun r F' => ∃ x : Nat, r = .tup [pt x 0, iv .i64 0] ∧ F' = (x, slM b f m (slE (slF ((W.drop (f * s)).take (m * s)) 0) (slF ((W.drop ((f + m) * s)).take (m * s)) 1) 2)) :: dH b a l) := by
  have hn := hS.n
  have hn2 := hA.n2
  have cM := slmay_ct b a l f m hn2 (by omega) hm hS.dk
  have c0 := snap_ct b a l hA hS hl f m (by omega) hm 0 hms5
  have c1 := snap_ct b a l hA hS hl (f + m) m (by omega) hm 1 hms5
  obtain ⟨A, hAe⟩ : ∃ A, A = slF ((W.drop (f * s)).take (m * s)) 0 := ⟨_, rfl⟩
  obtain ⟨B, hBe⟩ : ∃ A, A = slF ((W.drop ((f + m) * s)).take (m * s)) 1 := ⟨_, rfl⟩
  rw [← hAe] at c0 ⊢
  rw [← hBe] at c1 ⊢
  have k00 : ((0 : Int) != 0) = false := rfl
  refine ACt.intro Try.func11 rfl (by kernel_rfl) (by simp [Try.ntmps11]) (fun cx => ?_)
  simp only [argE, Try.ntmps11, Try.results11]
  first | (have FRx := FR; clear FRx) | have FR := fr0S
  have FA := Sm.mk (And.intro TFSlD k00)
  repeat' first | (apply Sm.mk; refine Ys ?_) | refine WP.seq fun K hK => ?_ | (apply Ob.mk; exact Yo) | refine And.intro (Ob.out ?_) ?_ | refine Y1SlD ?_ | refine CallV.updM (cM) (pmz _) (Sm.out ?_) | ((first | refine ExF.up ?_ (cM) (Sm.out ?_) | refine ExG.up ?_ (fun _ => cM) (Sm.out ?_) | refine ExG.upJ ?_ (fun _ => cM) (Sm.out ?_) | refine ExG.upI ?_ (fun _ => cM) (Ob.out ?_) (Sm.out ?_)); focus (exact ⟨_, (pmz _)⟩)) | refine YzSlD ?_ | (refine WP.cond rfl (fun hc => ?_) (fun hc => ?_) <;> (try simp only [ZC, reduceCtorEq, ZD] at hc) <;> (try exact absurd hc (by decide)) <;> (try (exfalso; omega))) | refine Rt.mk (And.intro (fun hg => Sm.out ?_) fun hg => Sm.out ?_) | (refine Nu.mk ?_; first | (fail_if_success have := nb1); intro nb1 | (fail_if_success have := nb2); intro nb2 | (fail_if_success have := nb3); intro nb3 | (fail_if_success have := nb4); intro nb4 | (fail_if_success have := nb5); intro nb5 | (fail_if_success have := nb6); intro nb6 | (fail_if_success have := nb7); intro nb7 | (fail_if_success have := nb8); intro nb8 | intro nbz) | (apply Yfr; refine Yf FR fun hFRb FR => ?_) | refine Two.mk ?_ ?_ | (apply Yxc; exact Yx) | refine Cs.mk fun hcs => Sm.out ?_ | go_step | omega | (simp only [maxLen_eq]; omega) | exact trivial
  obtain ⟨x, hx⟩ : ∃ x, x = nb1 := ⟨_, rfl⟩
  rw [← hx]
  clear hx
  refine WP.loop (Γ := Nat) (fun k => ⟨[(26, iv .i64 (k : Int)), (9, pt x 0), (0, pt b 0), (1, iv .i64 (f : Int)), (2, iv .i64 (m : Int))], (x, slM b f m (slE A B k)) :: dH b a l⟩) (fun k => k ≤ 2) (fun k => 2 - k) 0 (Nat.zero_le _) (Sub.of_env [] (by exact pmz _) (by simp [look])) ?_
  intro k hk
  have FR : Sm (¬ ((1 : Nat) = 0)) := Sm.mk Nat.one_ne_zero
  by_cases hk2 : k < 2
  · have ki : decide ((k : Int) < 2) = true := decide_eq_true (by omega)
    obtain ⟨S, cK, eK, wM⟩ : ∃ S, ACt Try.prog 34 [pt b 0, iv .i64 ((f + k * m : Nat) : Int), iv .i64 (m : Int), nu k] (dH b a l) (fun r F' => r = .tup [nu S.1, .slz .u8 S.2, iv .i64 0] ∧ F' = dH b a l) ∧ slE A B (k + 1) = slN (slE A B k) S ∧ k * m ≤ m := by
      match k, hk2 with
      | 0, _ => exact ⟨A, by rw [Nat.zero_mul]; exact c0, rfl, by omega⟩
      | 1, _ => exact ⟨B, by rw [Nat.one_mul]; exact c1, rfl, by omega⟩
    have w1 : IntKind.i64.wrap ((k : Int) * (m : Int)) = ((k * m : Nat) : Int) := by rw [← Int.natCast_mul]; exact wrap_i64 (by omega) (by omega)
    have w2 : IntKind.i64.wrap ((f : Int) + ((k * m : Nat) : Int)) = ((f + k * m : Nat) : Int) := by rw [wrap_i64 (by omega) (by omega)]; omega
    have w3 : IntKind.u64.wrap (k : Int) = (k : Int) := wrap_u64 (by omega) (by omega)
    have w4 : IntKind.i64.wrap ((k : Int) + 1) = ((k + 1 : Nat) : Int) := by rw [wrap_i64 (by omega) (by omega)]; omega
    obtain ⟨E, hE⟩ : ∃ E, E = slE A B k := ⟨_, rfl⟩
    rw [← hE] at eK ⊢
    have cK2 := cK.lookU (pm1 (x, slM b f m E) (dH b a l))
    unfold slM at cK2
    by_cases hgt : E.1 < S.1
    · have g1 : decide ((S.1 : Int) > (E.1 : Int)) = true := decide_eq_true (by omega)
      have eN : slE A B (k + 1) = S := by rw [eK]; unfold slN; rw [if_pos hgt]
      have eW : slW S = .slz .u8 S.2 := by unfold slW; rw [if_neg (by omega)]
      unfold slM
      first | (have FRx := FR; clear FRx) | have FR := fr0S
      have FA := Sm.mk (And.intro TFSlD (And.intro ki (And.intro k00 (And.intro w1 (And.intro w2 (And.intro w3 (And.intro w4 g1)))))))
      repeat' first | (apply Sm.mk; refine Ys ?_) | refine WP.seq fun K hK => ?_ | (apply Ob.mk; exact Yo) | refine And.intro (Ob.out ?_) ?_ | refine Y1SlD ?_ | refine CallV.updM (cK2) (pmz _) (Sm.out ?_) | ((first | refine ExF.up ?_ (cK2) (Sm.out ?_) | refine ExG.up ?_ (fun _ => cK2) (Sm.out ?_) | refine ExG.upJ ?_ (fun _ => cK2) (Sm.out ?_) | refine ExG.upI ?_ (fun _ => cK2) (Ob.out ?_) (Sm.out ?_)); focus (exact ⟨_, (pmz _)⟩)) | refine YzSlD ?_ | (refine WP.cond rfl (fun hc => ?_) (fun hc => ?_) <;> (try simp only [ZC, reduceCtorEq, ZD] at hc) <;> (try exact absurd hc (by decide)) <;> (try (exfalso; omega))) | refine Rt.mk (And.intro (fun hg => Sm.out ?_) fun hg => Sm.out ?_) | (refine Nu.mk ?_; first | (fail_if_success have := nb1); intro nb1 | (fail_if_success have := nb2); intro nb2 | (fail_if_success have := nb3); intro nb3 | (fail_if_success have := nb4); intro nb4 | (fail_if_success have := nb5); intro nb5 | (fail_if_success have := nb6); intro nb6 | (fail_if_success have := nb7); intro nb7 | (fail_if_success have := nb8); intro nb8 | intro nbz) | (apply Yfr; refine Yf FR fun hFRb FR => ?_) | refine Two.mk ?_ ?_ | (apply Yxc; exact Yx) | refine Cs.mk fun hcs => Sm.out ?_ | go_step | omega | (simp only [maxLen_eq]; omega) | exact trivial
      exact ⟨k + 1, by omega, by omega, Sub.of_env [] (by rw [eN, eW]; exact pmz _) (by simp [look])⟩
    · have g1 : decide ((S.1 : Int) > (E.1 : Int)) = false := decide_eq_false (by omega)
      have eN : slE A B (k + 1) = E := by rw [eK]; unfold slN; rw [if_neg hgt]
      unfold slM
      first | (have FRx := FR; clear FRx) | have FR := fr0S
      have FA := Sm.mk (And.intro TFSlD (And.intro ki (And.intro k00 (And.intro w1 (And.intro w2 (And.intro w3 (And.intro w4 g1)))))))
      repeat' first | (apply Sm.mk; refine Ys ?_) | refine WP.seq fun K hK => ?_ | (apply Ob.mk; exact Yo) | refine And.intro (Ob.out ?_) ?_ | refine Y1SlD ?_ | refine CallV.updM (cK2) (pmz _) (Sm.out ?_) | ((first | refine ExF.up ?_ (cK2) (Sm.out ?_) | refine ExG.up ?_ (fun _ => cK2) (Sm.out ?_) | refine ExG.upJ ?_ (fun _ => cK2) (Sm.out ?_) | refine ExG.upI ?_ (fun _ => cK2) (Ob.out ?_) (Sm.out ?_)); focus (exact ⟨_, (pmz _)⟩)) | refine YzSlD ?_ | (refine WP.cond rfl (fun hc => ?_) (fun hc => ?_) <;> (try simp only [ZC, reduceCtorEq, ZD] at hc) <;> (try exact absurd hc (by decide)) <;> (try (exfalso; omega))) | refine Rt.mk (And.intro (fun hg => Sm.out ?_) fun hg => Sm.out ?_) | (refine Nu.mk ?_; first | (fail_if_success have := nb1); intro nb1 | (fail_if_success have := nb2); intro nb2 | (fail_if_success have := nb3); intro nb3 | (fail_if_success have := nb4); intro nb4 | (fail_if_success have := nb5); intro nb5 | (fail_if_success have := nb6); intro nb6 | (fail_if_success have := nb7); intro nb7 | (fail_if_success have := nb8); intro nb8 | intro nbz) | (apply Yfr; refine Yf FR fun hFRb FR => ?_) | refine Two.mk ?_ ?_ | (apply Yxc; exact Yx) | refine Cs.mk fun hcs => Sm.out ?_ | go_step | omega | (simp only [maxLen_eq]; omega) | exact trivial
      exact ⟨k + 1, by omega, by omega, Sub.of_env [] (by rw [eN]; exact pmz _) (by simp [look])⟩
  · obtain rfl : k = 2 := by omega
    have ki : decide (((2 : Nat) : Int) < 2) = false := rfl
    first | (have FRx := FR; clear FRx) | have FR := fr0S
    have FA := Sm.mk (And.intro TFSlD ki)
    repeat' first | (apply Sm.mk; refine Ys ?_) | refine WP.seq fun K hK => ?_ | (apply Ob.mk; exact Yo) | refine And.intro (Ob.out ?_) ?_ | refine Y1SlD ?_ | refine YzSlD ?_ | (refine WP.cond rfl (fun hc => ?_) (fun hc => ?_) <;> (try simp only [ZC, reduceCtorEq, ZD] at hc) <;> (try exact absurd hc (by decide)) <;> (try (exfalso; omega))) | refine Rt.mk (And.intro (fun hg => Sm.out ?_) fun hg => Sm.out ?_) | (refine Nu.mk ?_; first | (fail_if_success have := nb1); intro nb1 | (fail_if_success have := nb2); intro nb2 | (fail_if_success have := nb3); intro nb3 | (fail_if_success have := nb4); intro nb4 | (fail_if_success have := nb5); intro nb5 | (fail_if_success have := nb6); intro nb6 | (fail_if_success have := nb7); intro nb7 | (fail_if_success have := nb8); intro nb8 | intro nbz) | (apply Yfr; refine Yf FR fun hFRb FR => ?_) | refine Two.mk ?_ ?_ | (apply Yxc; exact Yx) | refine Cs.mk fun hcs => Sm.out ?_ | go_step | omega | (simp only [maxLen_eq]; omega) | exact trivial
    (refine OutQ.drop _ _ (pmz _) (by simp only [resv, ZK, look, loadv, loadn, loadnm, load1, load1m, hget, ↓reduceIte, Nat.reduceEqDiff, Nat.reduceAdd, Nat.reduceMul, Nat.reduceLeDiff, Nat.reduceLT, reduceCtorEq, TFSlD, FR.out]) ⟨x, (by simp only [resv, resA, ZK, look, loadv, loadn, loadnm, load1, load1m, hget, ↓reduceIte, Nat.reduceEqDiff, Nat.reduceAdd, Nat.reduceMul, Nat.reduceLeDiff, Nat.reduceLT, reduceCtorEq, TFSlD, FR.out]; first | done | rfl), rfl⟩)
def snV (e : Nat × List Int) : AV := .agg [nu e.1, .slz .u8 e.2]
theorem slF_bd (R : Bs) (k : Nat) : (slF R k).1 < 18446744073709551616 := by
  unfold slF
  split
  · unfold slV
    cases h : nF (ub (bodyB R)) with
    | none => simp
    | some p =>
      obtain ⟨n, q⟩ := p
      have := (nF_bd (by_ub _) h).1
      simp only
      split
      · simp
      · simpa using this
  · simp
def TFCfC :=
  And.intro (And.intro (And.intro (And.intro (And.intro tyc0 tyc4) (And.intro zmb4 tyc5)) (And.intro (And.intro zmb5 tyc30) (And.intro mth30_37 (And.intro con30 zmb30)))) (And.intro (And.intro (And.intro tyc36 elt36) (And.intro mkz36 apT36)) (And.intro (And.intro elk36 zmb36) (And.intro tyc65 (And.intro foff65_0 fpart65_0))))) (And.intro (And.intro (And.intro (And.intro foff65_1 fpart65_1) (And.intro foff65_2 fpart65_2)) (And.intro (And.intro foff65_3 fpart65_3) (And.intro foff65_4 (And.intro fpart65_4 foff65_5)))) (And.intro (And.intro (And.intro fpart65_5 zmb65) (And.intro bldT65 Try.underlying0)) (And.intro (And.intro Try.underlying4 Try.underlying5) (And.intro Try.underlying30 (And.intro Try.underlying36 Try.underlying65)))))
theorem Y1CfC {G R : Prop} (r : R) (h : R → G := by intro r; first | (apply WP.region; exact rvc_sound _ _ (Sm.out r)) | exact WP.drawK rfl mixed (by decide +kernel) (Sm.out r) | (apply WP.block; exact r) | (apply WP.skip; exact Yq r) | (apply WP.exit; exact Yq r) | (apply WP.ret; exact Sm.out r) | exact WP.cond rfl (fun _ => r) (fun hg => absurd hg (by decide)) | exact WP.cond rfl (fun hg => absurd hg (by decide)) (fun _ => r) | exact Rt.mk (And.intro (fun _ => Sm.out r) fun hg => absurd hg (by decide)) | exact Rt.mk (And.intro (fun hg => absurd hg (by decide)) fun _ => Sm.out r)) : G := h r
theorem YzCfC {G R : Prop} (r : R) (h : R → G := by intro r; first | (apply ExG.no; exact Sm.out r) | (apply Or.inl; apply ExG.no; exact Sm.out r) | exact Or.inl (And.intro (fun hg => absurd hg (by decide)) (ExG.no (Sm.out r)))) : G := h r
set_option maxRecDepth 20000 in
theorem bcl_nil : ACt Try.prog 40 [nl] [] (Fn (.slz .u8 [])) := by
  refine ACt.intro Try.func40 rfl (by kernel_rfl) (by simp [Try.ntmps40]) (fun cx => ?_)
  simp only [argE, Try.ntmps40, Try.results40]
  first | (have FRx := FR; clear FRx) | have FR := fr0S
  have FA := Sm.mk (TFCfC)
  repeat' first | (apply Sm.mk; refine Ys ?_) | refine WP.seq fun K hK => ?_ | (apply Ob.mk; exact Yo) | refine And.intro (Ob.out ?_) ?_ | refine Y1CfC ?_ | refine YzCfC ?_ | (refine WP.cond rfl (fun hc => ?_) (fun hc => ?_) <;> (try simp only [ZC, reduceCtorEq, ZD] at hc) <;> (try exact absurd hc (by decide)) <;> (try (exfalso; omega))) | refine Rt.mk (And.intro (fun hg => Sm.out ?_) fun hg => Sm.out ?_) | (refine Nu.mk ?_; first | (fail_if_success have := nb1); intro nb1 | (fail_if_success have := nb2); intro nb2 | (fail_if_success have := nb3); intro nb3 | (fail_if_success have := nb4); intro nb4 | (fail_if_success have := nb5); intro nb5 | (fail_if_success have := nb6); intro nb6 | intro nbz) | (apply Yfr; refine Yf FR fun hFRb FR => ?_) | refine Two.mk ?_ ?_ | (apply Yxc; exact Yx) | refine Cs.mk fun hcs => Sm.out ?_ | go_step | omega | (simp only [maxLen_eq]; omega) | exact trivial
  (refine OutQ.wk (Wk.cons (i := 2) (by simp only [look, ↓reduceIte, Nat.reduceEqDiff]; first | done | rfl) (fun w I v h => Rep.nilz (k := .u8) h)) ?_)
  (refine Yg ?_; try exact trivial)
end Go.Proofs.Yteoajodoejoccaa
