/-
  The walks and the laws that the statement leans on, part 42.
-/
import Derived.Test.YtmbecppmkglmhaaDoorC11
import Derived.Test.YtmbecppmkglmhaaDoorC41
namespace Go.Proofs.YtmbecppmkglmhaaDoor
open Go Wi
set_option linter.unusedVariables false
set_option linter.unusedSimpArgs false
set_option linter.defProp false
def TFSlD :=
  And.intro (And.intro (And.intro (And.intro (And.intro tyc0 (And.intro tyc3 zmb3)) (And.intro tyc4 (And.intro zmb4 tyc5))) (And.intro (And.intro zmb5 (And.intro tyc22 elt22)) (And.intro (And.intro mkz22 apT22) (And.intro elk22 zmb22)))) (And.intro (And.intro (And.intro tyc26 (And.intro mth26_27 mth26_26)) (And.intro mth26_28 (And.intro con26 zmb26))) (And.intro (And.intro tyc29 (And.intro zmb29 tyc32)) (And.intro (And.intro zmb32 tyc77) (And.intro zmb77 tyc99))))) (And.intro (And.intro (And.intro (And.intro foff99_0 (And.intro fpart99_0 foff99_1)) (And.intro fpart99_1 (And.intro foff99_2 fpart99_2))) (And.intro (And.intro foff99_3 (And.intro fpart99_3 foff99_4)) (And.intro (And.intro fpart99_4 foff99_5) (And.intro fpart99_5 zmb99)))) (And.intro (And.intro (And.intro bldT99 (And.intro tyc100 Tryd.underlying0)) (And.intro Tryd.underlying3 (And.intro Tryd.underlying4 Tryd.underlying5))) (And.intro (And.intro Tryd.underlying22 (And.intro Tryd.underlying26 Tryd.underlying29)) (And.intro (And.intro Tryd.underlying32 Tryd.underlying77) (And.intro Tryd.underlying99 Tryd.underlying100)))))
theorem Y1SlD {G R : Prop} (r : R) (h : R → G := by intro r; first | (apply WP.region; exact rvc_sound _ _ (Sm.out r)) | exact WP.drawK rfl mixed (by decide +kernel) (Sm.out r) | (apply WP.block; exact r) | (apply WP.skip; exact Yq r) | (apply WP.exit; exact Yq r) | (apply WP.ret; exact Sm.out r) | exact WP.cond rfl (fun _ => r) (fun hg => absurd hg (by decide)) | exact WP.cond rfl (fun hg => absurd hg (by decide)) (fun _ => r) | exact Rt.mk (And.intro (fun _ => Sm.out r) fun hg => absurd hg (by decide)) | exact Rt.mk (And.intro (fun hg => absurd hg (by decide)) fun _ => Sm.out r)) : G := h r
theorem YzSlD {G R : Prop} (r : R) (h : R → G := by intro r; first | (apply ExG.no; exact Sm.out r) | (apply Or.inl; apply ExG.no; exact Sm.out r) | exact Or.inl (And.intro (fun hg => absurd hg (by decide)) (ExG.no (Sm.out r)))) : G := h r
def slW (e : Nat × List Int) : AV := if e.1 = 0 then .lit (.slice none 0 0) else .slz .u8 e.2
def slM (b f m : Nat) (e : Nat × List Int) : MB := .cells [pt b 0, iv .i64 (f : Int), iv .i64 (m : Int), nu e.1, slW e, bv false] 6 99
def slE (A B : Nat × List Int) : Nat → Nat × List Int
  | 0 => (0, [])
  | 1 => slN (0, []) A
  | _ => slN (slN (0, []) A) B
set_option maxRecDepth 20000 in
set_option maxHeartbeats 4000000 in
theorem slopen_ct {c s n : Nat} {W : Bs} (b : Nat) (a : DA) (l : DL) (hA : AOk c a) (hS : Stl s n (ub W) a) (hl : LOk b a l) (f m : Nat) (hfm : f + 2 * m ≤ n) (hm : 1 ≤ m) (hms5 : m * s ≤ 5000) :
    ACt Tryd.prog 35 [pt b 0, iv .i64 (f : Int), iv .i64 (m : Int)] (dH b a l) (fun r F' => ∃ x : Nat, r = .tup [pt x 0, iv .i64 0] ∧ F' = (x, slM b f m (slE (slF ((W.drop (f * s)).take (m * s)) 0) (slF ((W.drop ((f + m) * s)).take (m * s)) 1) 2)) :: dH b a l) := by
  have hn := hS.n
  have hn2 := hA.n2
  have cM := slmay_ct b a l f m hn2 (by omega) hm hS.dk
  have c0 := snap_ct b a l hA hS hl f m (by omega) hm 0 hms5
  have c1 := snap_ct b a l hA hS hl (f + m) m (by omega) hm 1 hms5
  obtain ⟨A, hAe⟩ : ∃ A, A = slF ((W.drop (f * s)).take (m * s)) 0 := ⟨_, rfl⟩
  obtain ⟨B, hBe⟩ : ∃ A, A = slF ((W.drop ((f + m) * s)).take (m * s)) 1 := ⟨_, rfl⟩
  rw [← hAe] at c0 ⊢
  rw [← hBe] at c1 ⊢
  have k00 : ((0 : Int) != 0) = false := rfl
  refine ACt.intro Tryd.func35 rfl (by kernel_rfl) (by simp [Tryd.ntmps35]) (fun cx => ?_)
  simp only [argE, Tryd.ntmps35, Tryd.results35]
  first | (have FRx := FR; clear FRx) | have FR := fr0S
  have FA := Sm.mk (And.intro TFSlD k00)
  repeat' first | (apply Sm.mk; refine Ys ?_) | refine WP.seq fun K hK => ?_ | (apply Ob.mk; exact Yo) | refine And.intro (Ob.out ?_) ?_ | refine Y1SlD ?_ | refine CallV.updM (cM) (pmz _) (Sm.out ?_) | ((first | refine ExF.up ?_ (cM) (Sm.out ?_) | refine ExG.up ?_ (fun _ => cM) (Sm.out ?_) | refine ExG.upJ ?_ (fun _ => cM) (Sm.out ?_) | refine ExG.upI ?_ (fun _ => cM) (Ob.out ?_) (Sm.out ?_)); focus (exact ⟨_, (pmz _)⟩)) | refine YzSlD ?_ | (refine WP.cond rfl (fun hc => ?_) (fun hc => ?_) <;> (try simp only [ZC, reduceCtorEq, ZD] at hc) <;> (try exact absurd hc (by decide)) <;> (try (exfalso; omega))) | refine Rt.mk (And.intro (fun hg => Sm.out ?_) fun hg => Sm.out ?_) | (refine Nu.mk ?_; first | (fail_if_success have := nb1); intro nb1 | (fail_if_success have := nb2); intro nb2 | (fail_if_success have := nb3); intro nb3 | (fail_if_success have := nb4); intro nb4 | (fail_if_success have := nb5); intro nb5 | (fail_if_success have := nb6); intro nb6 | (fail_if_success have := nb7); intro nb7 | (fail_if_success have := nb8); intro nb8 | intro nbz) | (apply Yfr; refine Yf FR fun hFRb FR => ?_) | refine Two.mk ?_ ?_ | (apply Yxc; exact Yx) | refine Cs.mk fun hcs => Sm.out ?_ | go_step | omega | (simp only [maxLen_eq]; omega) | exact trivial
  obtain ⟨x, hx⟩ : ∃ x, x = nb1 := ⟨_, rfl⟩
  rw [← hx]
  clear hx
  refine WP.loop (Γ := Nat) (fun k => ⟨[(26, iv .i64 (k : Int)), (9, pt x 0), (0, pt b 0), (1, iv .i64 (f : Int)), (2, iv .i64 (m : Int))], (x, slM b f m (slE A B k)) :: dH b a l⟩) (fun k => k ≤ 2) (fun k => 2 - k) 0 (Nat.zero_le _) (Sub.of_env [] (by exact pmz _) (by simp [look])) ?_
  intro k hk
  have FR : Sm (¬ ((1 : Nat) = 0)) := Sm.mk Nat.one_ne_zero
  by_cases hk2 : k < 2
  · have ki : decide ((k : Int) < 2) = true := decide_eq_true (by omega)
    obtain ⟨S, cK, eK, wM⟩ : ∃ S, ACt Tryd.prog 56 [pt b 0, iv .i64 ((f + k * m : Nat) : Int), iv .i64 (m : Int), nu k] (dH b a l) (fun r F' => r = .tup [nu S.1, .slz .u8 S.2, iv .i64 0] ∧ F' = dH b a l) ∧ slE A B (k + 1) = slN (slE A B k) S ∧ k * m ≤ m := by
      match k, hk2 with
      | 0, _ => exact ⟨A, by rw [Nat.zero_mul]; exact c0, rfl, by omega⟩
      | 1, _ => exact ⟨B, by rw [Nat.one_mul]; exact c1, rfl, by omega⟩
    have w1 : IntKind.i64.wrap ((k : Int) * (m : Int)) = ((k * m : Nat) : Int) := by rw [← Int.natCast_mul]; exact wrap_i64 (by omega) (by omega)
    have w2 : IntKind.i64.wrap ((f : Int) + ((k * m : Nat) : Int)) = ((f + k * m : Nat) : Int) := by rw [wrap_i64 (by omega) (by omega)]; omega
    have w3 : IntKind.u64.wrap (k : Int) = (k : Int) := wrap_u64 (by omega) (by omega)
    have w4 : IntKind.i64.wrap ((k : Int) + 1) = ((k + 1 : Nat) : Int) := by rw [wrap_i64 (by omega) (by omega)]; omega
    obtain ⟨E, hE⟩ : ∃ E, E = slE A B k := ⟨_, rfl⟩
    rw [← hE] at eK ⊢
    have cK2 := cK.lookU (pm1 (x, slM b f m E) (dH b a l))
    unfold slM at cK2
    by_cases hgt : E.1 < S.1
    · have g1 : decide ((S.1 : Int) > (E.1 : Int)) = true := decide_eq_true (by omega)
      have eN : slE A B (k + 1) = S := by rw [eK]; unfold slN; rw [if_pos hgt]
      have eW : slW S = .slz .u8 S.2 := by unfold slW; rw [if_neg (by omega)]
      unfold slM
      first | (have FRx := FR; clear FRx) | have FR := fr0S
      have FA := Sm.mk (And.intro TFSlD (And.intro ki (And.intro k00 (And.intro w1 (And.intro w2 (And.intro w3 (And.intro w4 g1)))))))
      repeat' first | (apply Sm.mk; refine Ys ?_) | refine WP.seq fun K hK => ?_ | (apply Ob.mk; exact Yo) | refine And.intro (Ob.out ?_) ?_ | refine Y1SlD ?_ | refine CallV.updM (cK2) (pmz _) (Sm.out ?_) | ((first | refine ExF.up ?_ (cK2) (Sm.out ?_) | refine ExG.up ?_ (fun _ => cK2) (Sm.out ?_) | refine ExG.upJ ?_ (fun _ => cK2) (Sm.out ?_) | refine ExG.upI ?_ (fun _ => cK2) (Ob.out ?_) (Sm.out ?_)); focus (exact ⟨_, (pmz _)⟩)) | refine YzSlD ?_ | (refine WP.cond rfl (fun hc => ?_) (fun hc => ?_) <;> (try simp only [ZC, reduceCtorEq, ZD] at hc) <;> (try exact absurd hc (by decide)) <;> (try (exfalso; omega))) | refine Rt.mk (And.intro (fun hg => Sm.out ?_) fun hg => Sm.out ?_) | (refine Nu.mk ?_; first | (fail_if_success have := nb1); intro nb1 | (fail_if_success have := nb2); intro nb2 | (fail_if_success have := nb3); intro nb3 | (fail_if_success have := nb4); intro nb4 | (fail_if_success have := nb5); intro nb5 | (fail_if_success have := nb6); intro nb6 | (fail_if_success have := nb7); intro nb7 | (fail_if_success have := nb8); intro nb8 | intro nbz) | (apply Yfr; refine Yf FR fun hFRb FR => ?_) | refine Two.mk ?_ ?_ | (apply Yxc; exact Yx) | refine Cs.mk fun hcs => Sm.out ?_ | go_step | omega | (simp only [maxLen_eq]; omega) | exact trivial
      exact ⟨k + 1, by omega, by omega, Sub.of_env [] (by rw [eN, eW]; exact pmz _) (by simp [look])⟩
    · have g1 : decide ((S.1 : Int) > (E.1 : Int)) = false := decide_eq_false (by omega)
      have eN : slE A B (k + 1) = E := by rw [eK]; unfold slN; rw [if_neg hgt]
      unfold slM
      first | (have FRx := FR; clear FRx) | have FR := fr0S
      have FA := Sm.mk (And.intro TFSlD (And.intro ki (And.intro k00 (And.intro w1 (And.intro w2 (And.intro w3 (And.intro w4 g1)))))))
      repeat' first | (apply Sm.mk; refine Ys ?_) | refine WP.seq fun K hK => ?_ | (apply Ob.mk; exact Yo) | refine And.intro (Ob.out ?_) ?_ | refine Y1SlD ?_ | refine CallV.updM (cK2) (pmz _) (Sm.out ?_) | ((first | refine ExF.up ?_ (cK2) (Sm.out ?_) | refine ExG.up ?_ (fun _ => cK2) (Sm.out ?_) | refine ExG.upJ ?_ (fun _ => cK2) (Sm.out ?_) | refine ExG.upI ?_ (fun _ => cK2) (Ob.out ?_) (Sm.out ?_)); focus (exact ⟨_, (pmz _)⟩)) | refine YzSlD ?_ | (refine WP.cond rfl (fun hc => ?_) (fun hc => ?_) <;> (try simp only [ZC, reduceCtorEq, ZD] at hc) <;> (try exact absurd hc (by decide)) <;> (try (exfalso; omega))) | refine Rt.mk (And.intro (fun hg => Sm.out ?_) fun hg => Sm.out ?_) | (refine Nu.mk ?_; first | (fail_if_success have := nb1); intro nb1 | (fail_if_success have := nb2); intro nb2 | (fail_if_success have := nb3); intro nb3 | (fail_if_success have := nb4); intro nb4 | (fail_if_success have := nb5); intro nb5 | (fail_if_success have := nb6); intro nb6 | (fail_if_success have := nb7); intro nb7 | (fail_if_success have := nb8); intro nb8 | intro nbz) | (apply Yfr; refine Yf FR fun hFRb FR => ?_) | refine Two.mk ?_ ?_ | (apply Yxc; exact Yx) | refine Cs.mk fun hcs => Sm.out ?_ | go_step | omega | (simp only [maxLen_eq]; omega) | exact trivial
      exact ⟨k + 1, by omega, by omega, Sub.of_env [] (by rw [eN]; exact pmz _) (by simp [look])⟩
  · obtain rfl : k = 2 := by omega
    have ki : decide (((2 : Nat) : Int) < 2) = false := rfl
    first | (have FRx := FR; clear FRx) | have FR := fr0S
    have FA := Sm.mk (And.intro TFSlD ki)
    repeat' first | (apply Sm.mk; refine Ys ?_) | refine WP.seq fun K hK => ?_ | (apply Ob.mk; exact Yo) | refine And.intro (Ob.out ?_) ?_ | refine Y1SlD ?_ | refine YzSlD ?_ | (refine WP.cond rfl (fun hc => ?_) (fun hc => ?_) <;> (try simp only [ZC, reduceCtorEq, ZD] at hc) <;> (try exact absurd hc (by decide)) <;> (try (exfalso; omega))) | refine Rt.mk (And.intro (fun hg => Sm.out ?_) fun hg => Sm.out ?_) | (refine Nu.mk ?_; first | (fail_if_success have := nb1); intro nb1 | (fail_if_success have := nb2); intro nb2 | (fail_if_success have := nb3); intro nb3 | (fail_if_success have := nb4); intro nb4 | (fail_if_success have := nb5); intro nb5 | (fail_if_success have := nb6); intro nb6 | (fail_if_success have := nb7); intro nb7 | (fail_if_success have := nb8); intro nb8 | intro nbz) | (apply Yfr; refine Yf FR fun hFRb FR => ?_) | refine Two.mk ?_ ?_ | (apply Yxc; exact Yx) | refine Cs.mk fun hcs => Sm.out ?_ | go_step | omega | (simp only [maxLen_eq]; omega) | exact trivial
    (refine OutQ.drop _ _ (pmz _) (by simp only [resv, ZK, look, loadv, loadn, loadnm, load1, load1m, hget, ↓reduceIte, Nat.reduceEqDiff, Nat.reduceAdd, Nat.reduceMul, Nat.reduceLeDiff, Nat.reduceLT, reduceCtorEq, TFSlD, FR.out]) ⟨x, (by simp only [resv, resA, ZK, look, loadv, loadn, loadnm, load1, load1m, hget, ↓reduceIte, Nat.reduceEqDiff, Nat.reduceAdd, Nat.reduceMul, Nat.reduceLeDiff, Nat.reduceLT, reduceCtorEq, TFSlD, FR.out]; first | done | rfl), rfl⟩)
def TFCfA :=
  And.intro (And.intro (And.intro (And.intro (And.intro tyc0 tyc3) (And.intro zmb3 (And.intro tyc4 zmb4))) (And.intro (And.intro tyc26 mth26_27) (And.intro mth26_26 (And.intro mth26_28 con26)))) (And.intro (And.intro (And.intro zmb26 tyc29) (And.intro zmb29 (And.intro tyc32 zmb32))) (And.intro (And.intro tyc77 zmb77) (And.intro tyc99 (And.intro foff99_0 fpart99_0))))) (And.intro (And.intro (And.intro (And.intro foff99_1 fpart99_1) (And.intro foff99_2 (And.intro fpart99_2 foff99_3))) (And.intro (And.intro fpart99_3 foff99_4) (And.intro fpart99_4 (And.intro foff99_5 fpart99_5)))) (And.intro (And.intro (And.intro zmb99 bldT99) (And.intro Tryd.underlying0 (And.intro Tryd.underlying3 Tryd.underlying4))) (And.intro (And.intro Tryd.underlying26 Tryd.underlying29) (And.intro Tryd.underlying32 (And.intro Tryd.underlying77 Tryd.underlying99)))))
theorem Y1CfA {G R : Prop} (r : R) (h : R → G := by intro r; first | (apply WP.region; exact rvc_sound _ _ (Sm.out r)) | exact WP.drawK rfl mixed (by decide +kernel) (Sm.out r) | (apply WP.block; exact r) | (apply WP.skip; exact Yq r) | (apply WP.exit; exact Yq r) | (apply WP.ret; exact Sm.out r) | exact WP.cond rfl (fun _ => r) (fun hg => absurd hg (by decide)) | exact WP.cond rfl (fun hg => absurd hg (by decide)) (fun _ => r) | exact Rt.mk (And.intro (fun _ => Sm.out r) fun hg => absurd hg (by decide)) | exact Rt.mk (And.intro (fun hg => absurd hg (by decide)) fun _ => Sm.out r)) : G := h r
theorem YzCfA {G R : Prop} (r : R) (h : R → G := by intro r; first | (apply ExG.no; exact Sm.out r) | (apply Or.inl; apply ExG.no; exact Sm.out r) | exact Or.inl (And.intro (fun hg => absurd hg (by decide)) (ExG.no (Sm.out r)))) : G := h r
set_option maxRecDepth 20000 in
theorem cfmay_ct (b : Nat) (a : DA) (l : DL) (m : Nat) (hn : a.n ≤ 400) (h : 2 * m + 2 ≤ a.n) (hm : 1 ≤ m) (hk : a.dk = false) : ACt Tryd.prog 34 [pt b 0, iv .i64 (m : Int)] (dH b a l) (fun r F' => r = iv .i64 0 ∧ F' = dH b a l) := by
  have cB := blocks_d b a l
  have cD := dark_d b a l
  rw [hk] at cD
  have k2 : decide ((m : Int) < 1) = false := decide_eq_false (by omega)
  have k3 : decide ((m : Int) > (a.n : Int)) = false := decide_eq_false (by omega)
  have w0 : IntKind.i64.wrap (2 * (m : Int)) = ((2 * m : Nat) : Int) := by rw [wrap_i64 (by omega) (by omega)]; omega
  have w1 : IntKind.i64.wrap ((a.n : Int) - ((2 * m : Nat) : Int)) = ((a.n - 2 * m : Nat) : Int) := by rw [wrap_i64 (by omega) (by omega)]; omega
  have k4 : decide (((a.n - 2 * m : Nat) : Int) < 2) = false := decide_eq_false (by omega)
  refine ACt.intro Tryd.func34 rfl (by kernel_rfl) (by simp [Tryd.ntmps34]) (fun cx => ?_)
  simp only [argE, Tryd.ntmps34, Tryd.results34]
  first | (have FRx := FR; clear FRx) | have FR := fr0S
  have FA := Sm.mk (And.intro TFCfA (And.intro k2 (And.intro k3 (And.intro k4 (And.intro w0 w1)))))
  repeat' first | (apply Sm.mk; refine Ys ?_) | refine WP.seq fun K hK => ?_ | (apply Ob.mk; exact Yo) | refine And.intro (Ob.out ?_) ?_ | refine Y1CfA ?_ | refine CallV.updM (cB) (pmz _) (Sm.out ?_) | ((first | refine ExF.up ?_ (cB) (Sm.out ?_) | refine ExG.up ?_ (fun _ => cB) (Sm.out ?_) | refine ExG.upJ ?_ (fun _ => cB) (Sm.out ?_) | refine ExG.upI ?_ (fun _ => cB) (Ob.out ?_) (Sm.out ?_)); focus (exact ⟨_, (pmz _)⟩)) | refine CallV.updM (cD) (pmz _) (Sm.out ?_) | ((first | refine ExF.up ?_ (cD) (Sm.out ?_) | refine ExG.up ?_ (fun _ => cD) (Sm.out ?_) | refine ExG.upJ ?_ (fun _ => cD) (Sm.out ?_) | refine ExG.upI ?_ (fun _ => cD) (Ob.out ?_) (Sm.out ?_)); focus (exact ⟨_, (pmz _)⟩)) | refine YzCfA ?_ | (refine WP.cond rfl (fun hc => ?_) (fun hc => ?_) <;> (try simp only [ZC, reduceCtorEq, ZD] at hc) <;> (try exact absurd hc (by decide)) <;> (try (exfalso; omega))) | refine Rt.mk (And.intro (fun hg => Sm.out ?_) fun hg => Sm.out ?_) | (refine Nu.mk ?_; first | (fail_if_success have := nb1); intro nb1 | (fail_if_success have := nb2); intro nb2 | (fail_if_success have := nb3); intro nb3 | (fail_if_success have := nb4); intro nb4 | (fail_if_success have := nb5); intro nb5 | (fail_if_success have := nb6); intro nb6 | (fail_if_success have := nb7); intro nb7 | (fail_if_success have := nb8); intro nb8 | intro nbz) | (apply Yfr; refine Yf FR fun hFRb FR => ?_) | refine Two.mk ?_ ?_ | (apply Yxc; exact Yx) | refine Cs.mk fun hcs => Sm.out ?_ | go_step | omega | (simp only [maxLen_eq]; omega) | exact trivial
  (refine OutQ.drop _ _ (pmz _) (by simp only [resv, ZK, look, loadv, loadn, loadnm, load1, load1m, hget, ↓reduceIte, Nat.reduceEqDiff, Nat.reduceAdd, Nat.reduceMul, Nat.reduceLeDiff, Nat.reduceLT, reduceCtorEq, TFCfA, FR.out]) ⟨(by simp only [resv, resA, ZK, look, loadv, loadn, loadnm, load1, load1m, hget, ↓reduceIte, Nat.reduceEqDiff, Nat.reduceAdd, Nat.reduceMul, Nat.reduceLeDiff, Nat.reduceLT, reduceCtorEq, TFCfA, FR.out]; first | done | rfl), rfl⟩)
def cfN (n m : Nat) : Nat := (n - 2 * m) / 2
set_option maxRecDepth 20000 in
theorem place_ct (b : Nat) (a : DA) (l : DL) (m e : Nat) (hn : a.n ≤ 400) (h : 2 * m ≤ a.n) (he : e < 18446744073709551616) : ACt Tryd.prog 36 [pt b 0, iv .i64 (m : Int), nu e] (dH b a l) (fun r F' => r = .tup [iv .i64 ((2 * m + e % 2 * cfN a.n m : Nat) : Int), iv .i64 ((cfN a.n m : Nat) : Int)] ∧ F' = dH b a l) := by
  have cB := blocks_d b a l
  have w0 : IntKind.i64.wrap (2 * (m : Int)) = ((2 * m : Nat) : Int) := by rw [wrap_i64 (by omega) (by omega)]; omega
  have w1 : IntKind.i64.wrap ((a.n : Int) - ((2 * m : Nat) : Int)) = ((a.n - 2 * m : Nat) : Int) := by rw [wrap_i64 (by omega) (by omega)]; omega
  have d1 : Int.tdiv ((a.n - 2 * m : Nat) : Int) 2 = ((cfN a.n m : Nat) : Int) := by unfold cfN; rw [Int.tdiv_eq_ediv_of_nonneg (by omega)]; omega
  have hN : cfN a.n m ≤ 200 := by unfold cfN; omega
  obtain ⟨N, hNe⟩ : ∃ N, N = cfN a.n m := ⟨_, rfl⟩
  rw [← hNe] at d1 hN ⊢
  have w2 : IntKind.i64.wrap (N : Int) = (N : Int) := wrap_i64 (by omega) (by omega)
  have tm : Int.tmod (e : Int) 2 = ((e % 2 : Nat) : Int) := by rw [Int.tmod_eq_emod_of_nonneg (by omega)]; omega
  obtain ⟨p, hp⟩ : ∃ p, p = e % 2 := ⟨_, rfl⟩
  have hp2 : p ≤ 1 := by omega
  rw [← hp] at tm ⊢
  have w3 : IntKind.i64.wrap (p : Int) = (p : Int) := wrap_i64 (by omega) (by omega)
  have hpN : p * N ≤ 1 * 200 := Nat.mul_le_mul hp2 hN
  have w4 : IntKind.i64.wrap ((p : Int) * (N : Int)) = ((p * N : Nat) : Int) := by rw [← Int.natCast_mul]; exact wrap_i64 (by omega) (by omega)
  have w5 : IntKind.i64.wrap (((2 * m : Nat) : Int) + ((p * N : Nat) : Int)) = ((2 * m + p * N : Nat) : Int) := by rw [wrap_i64 (by omega) (by omega)]; omega
  refine ACt.intro Tryd.func36 rfl (by kernel_rfl) (by simp [Tryd.ntmps36]) (fun cx => ?_)
  simp only [argE, Tryd.ntmps36, Tryd.results36]
  first | (have FRx := FR; clear FRx) | have FR := fr0S
  have FA := Sm.mk (And.intro TFCfA (And.intro w0 (And.intro w1 (And.intro w2 (And.intro w3 (And.intro w4 (And.intro w5 (And.intro d1 tm))))))))
  repeat' first | (apply Sm.mk; refine Ys ?_) | refine WP.seq fun K hK => ?_ | (apply Ob.mk; exact Yo) | refine And.intro (Ob.out ?_) ?_ | refine Y1CfA ?_ | refine CallV.updM (cB) (pmz _) (Sm.out ?_) | ((first | refine ExF.up ?_ (cB) (Sm.out ?_) | refine ExG.up ?_ (fun _ => cB) (Sm.out ?_) | refine ExG.upJ ?_ (fun _ => cB) (Sm.out ?_) | refine ExG.upI ?_ (fun _ => cB) (Ob.out ?_) (Sm.out ?_)); focus (exact ⟨_, (pmz _)⟩)) | refine YzCfA ?_ | (refine WP.cond rfl (fun hc => ?_) (fun hc => ?_) <;> (try simp only [ZC, reduceCtorEq, ZD] at hc) <;> (try exact absurd hc (by decide)) <;> (try (exfalso; omega))) | refine Rt.mk (And.intro (fun hg => Sm.out ?_) fun hg => Sm.out ?_) | (refine Nu.mk ?_; first | (fail_if_success have := nb1); intro nb1 | (fail_if_success have := nb2); intro nb2 | (fail_if_success have := nb3); intro nb3 | (fail_if_success have := nb4); intro nb4 | (fail_if_success have := nb5); intro nb5 | (fail_if_success have := nb6); intro nb6 | (fail_if_success have := nb7); intro nb7 | (fail_if_success have := nb8); intro nb8 | intro nbz) | (apply Yfr; refine Yf FR fun hFRb FR => ?_) | refine Two.mk ?_ ?_ | (apply Yxc; exact Yx) | refine Cs.mk fun hcs => Sm.out ?_ | go_step | omega | (simp only [maxLen_eq]; omega) | exact trivial
  (refine OutQ.drop _ _ (pmz _) (by simp only [resv, ZK, look, loadv, loadn, loadnm, load1, load1m, hget, ↓reduceIte, Nat.reduceEqDiff, Nat.reduceAdd, Nat.reduceMul, Nat.reduceLeDiff, Nat.reduceLT, reduceCtorEq, TFCfA, FR.out]) ⟨(by simp only [resv, resA, ZK, look, loadv, loadn, loadnm, load1, load1m, hget, ↓reduceIte, Nat.reduceEqDiff, Nat.reduceAdd, Nat.reduceMul, Nat.reduceLeDiff, Nat.reduceLT, reduceCtorEq, TFCfA, FR.out]; first | done | rfl), rfl⟩)
set_option maxRecDepth 20000 in
theorem slepoch_ct (x b f m : Nat) (e : Nat × List Int) : ACt Tryd.prog 37 [pt x 0] [(x, slM b f m e)] (fun r F' => r = nu e.1 ∧ F' = [(x, slM b f m e)]) := by
  unfold slM
  refine ACt.intro Tryd.func37 rfl (by kernel_rfl) (by simp [Tryd.ntmps37]) (fun cx => ?_)
  simp only [argE, Tryd.ntmps37, Tryd.results37]
  first | (have FRx := FR; clear FRx) | have FR := fr0S
  have FA := Sm.mk (TFCfA)
  repeat' first | (apply Sm.mk; refine Ys ?_) | refine WP.seq fun K hK => ?_ | (apply Ob.mk; exact Yo) | refine And.intro (Ob.out ?_) ?_ | refine Y1CfA ?_ | refine YzCfA ?_ | (refine WP.cond rfl (fun hc => ?_) (fun hc => ?_) <;> (try simp only [ZC, reduceCtorEq, ZD] at hc) <;> (try exact absurd hc (by decide)) <;> (try (exfalso; omega))) | refine Rt.mk (And.intro (fun hg => Sm.out ?_) fun hg => Sm.out ?_) | (refine Nu.mk ?_; first | (fail_if_success have := nb1); intro nb1 | (fail_if_success have := nb2); intro nb2 | (fail_if_success have := nb3); intro nb3 | (fail_if_success have := nb4); intro nb4 | (fail_if_success have := nb5); intro nb5 | (fail_if_success have := nb6); intro nb6 | (fail_if_success have := nb7); intro nb7 | (fail_if_success have := nb8); intro nb8 | intro nbz) | (apply Yfr; refine Yf FR fun hFRb FR => ?_) | refine Two.mk ?_ ?_ | (apply Yxc; exact Yx) | refine Cs.mk fun hcs => Sm.out ?_ | go_step | omega | (simp only [maxLen_eq]; omega) | exact trivial
  (refine OutQ.upd (by simp only [resv, ZK, look, loadv, loadn, loadnm, load1, load1m, hget, ↓reduceIte, Nat.reduceEqDiff, Nat.reduceAdd, Nat.reduceMul, Nat.reduceLeDiff, Nat.reduceLT, reduceCtorEq, TFCfA, FR.out]) (by simp only [resv, resA, ZK, look, loadv, loadn, loadnm, load1, load1m, hget, ↓reduceIte, Nat.reduceEqDiff, Nat.reduceAdd, Nat.reduceMul, Nat.reduceLeDiff, Nat.reduceLT, reduceCtorEq, TFCfA, FR.out]; first | done | rfl) (by simp only [hget, ↓reduceIte, if_true, if_false, FR.out]; first | done | rfl) ?_ <;> first | exact rfl | (simp only [ZK, look, loadv, loadn, loadnm, load1, load1m, hget, ↓reduceIte, Nat.reduceEqDiff, Nat.reduceAdd, Nat.reduceMul, Nat.reduceLeDiff, Nat.reduceLT, reduceCtorEq, TFCfA, FR.out]; done) | skip)
end Go.Proofs.YtmbecppmkglmhaaDoor
