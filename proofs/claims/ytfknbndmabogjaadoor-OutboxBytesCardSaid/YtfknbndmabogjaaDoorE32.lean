/-
  The walks and the laws that the statement leans on, part 32.
-/
import Derived.Test.YtfknbndmabogjaaDoorE10
import Derived.Test.YtfknbndmabogjaaDoorE31
namespace Go.Proofs.YtfknbndmabogjaaDoor.Wi
open Go
set_option linter.unusedVariables false
set_option linter.unusedSimpArgs false
set_option linter.defProp false
def TFWiM :=
  And.intro (And.intro (And.intro (And.intro (And.intro tyc0 (And.intro tyc3 zmb3)) (And.intro tyc4 (And.intro zmb4 tyc5))) (And.intro (And.intro zmb5 (And.intro tyc9 zmb9)) (And.intro tyc25 (And.intro zmb25 tyc34)))) (And.intro (And.intro (And.intro zmb34 (And.intro tyc53 elt53)) (And.intro mkz53 (And.intro apT53 elk53))) (And.intro (And.intro zmb53 (And.intro tyc55 mth55_86)) (And.intro mth55_89 (And.intro mth55_88 con55))))) (And.intro (And.intro (And.intro (And.intro zmb55 (And.intro tyc88 foff88_0)) (And.intro fpart88_0 (And.intro foff88_1 fpart88_1))) (And.intro (And.intro zmb88 (And.intro bldT88 tyc118)) (And.intro tyc120 (And.intro tyc150 zmb150)))) (And.intro (And.intro (And.intro Tryd.underlying0 (And.intro Tryd.underlying3 Tryd.underlying4)) (And.intro Tryd.underlying5 (And.intro Tryd.underlying9 Tryd.underlying25))) (And.intro (And.intro Tryd.underlying34 (And.intro Tryd.underlying53 Tryd.underlying55)) (And.intro (And.intro Tryd.underlying88 Tryd.underlying118) (And.intro Tryd.underlying120 Tryd.underlying150)))))
theorem Y1WiM {G R : Prop} (r : R) (h : R → G := by intro r; first | (apply WP.region; exact rvc_sound _ _ (Sm.out r)) | exact WP.drawK rfl mixed (by decide +kernel) (Sm.out r) | (apply WP.block; exact r) | (apply WP.skip; exact Yq r) | (apply WP.exit; exact Yq r) | (apply WP.ret; exact Sm.out r) | exact WP.cond rfl (fun _ => r) (fun hg => absurd hg (by decide)) | exact WP.cond rfl (fun hg => absurd hg (by decide)) (fun _ => r) | exact Rt.mk (And.intro (fun _ => Sm.out r) fun hg => absurd hg (by decide)) | exact Rt.mk (And.intro (fun hg => absurd hg (by decide)) fun _ => Sm.out r)) : G := h r
theorem YzWiM {G R : Prop} (r : R) (h : R → G := by intro r; first | (apply ExG.no; exact Sm.out r) | (apply Or.inl; apply ExG.no; exact Sm.out r) | exact Or.inl (And.intro (fun hg => absurd hg (by decide)) (ExG.no (Sm.out r)))) : G := h r
/-! One of no bytes -/
abbrev Kp (b : Nat) (x : AV) (f g : Bool) : AV → Hp → Prop := fun r F' => r = x ∧ F' = [(b, .cells [nilS, bv g] 2 88)]
set_option maxRecDepth 8000 in
theorem bad_e (b : Nat) (f : Bool) : ACt Tryd.prog 35 [pt b 0] [(b, .cells [nilS, bv f] 2 88)] (fun r F' => r = bv f ∧ F' = [(b, .cells [nilS, bv f] 2 88)]) := by
  refine ACt.intro Tryd.func35 rfl (by kernel_rfl) (by simp [Tryd.ntmps35]) (fun cx => ?_)
  simp only [argE, Tryd.ntmps35, Tryd.results35]
  first | (have FRx := FR; clear FRx) | have FR := fr0
  have FA := Sm.mk (TFWiM)
  repeat' first | (apply Sm.mk; refine Ysn ?_) | refine WP.seq fun K hK => ?_ | (apply Ob.mk; exact Yo) | refine And.intro (Ob.out ?_) ?_ | refine Y1WiM ?_ | refine YzWiM ?_ | (refine WP.cond rfl (fun hc => ?_) (fun hc => ?_) <;> (try simp only [ZC, reduceCtorEq, ZD] at hc) <;> (try exact absurd hc (by decide)) <;> (try (exfalso; omega))) | refine Rt.mk (And.intro (fun hg => Sm.out ?_) fun hg => Sm.out ?_) | (refine Nu.mk ?_; first | (fail_if_success have := nb1); intro nb1 | (fail_if_success have := nb2); intro nb2 | (fail_if_success have := nb3); intro nb3 | intro nbz) | (refine Fr.mk ?_; intro hfr; replace FR := And.intro hfr FR; clear hfr; refine Sm.out ?_) | refine Two.mk ?_ ?_ | (apply Yxc; exact Yx) | refine Cs.mk fun hcs => Sm.out ?_ | go_step | omega | (simp only [maxLen_eq]; omega) | exact trivial | refine Or.inr (Rt.mk (And.intro (fun hg => Sm.out ?_) fun hg => Sm.out ?_))
  (refine OutQ.upd (by simp only [resv, ZK, look, loadv, loadn, loadnm, load1, load1m, hget, ↓reduceIte, Nat.reduceEqDiff, Nat.reduceAdd, Nat.reduceMul, Nat.reduceLeDiff, Nat.reduceLT, reduceCtorEq, TFWiM, FR]) (by simp only [resv, resA, ZK, look, loadv, loadn, loadnm, load1, load1m, hget, ↓reduceIte, Nat.reduceEqDiff, Nat.reduceAdd, Nat.reduceMul, Nat.reduceLeDiff, Nat.reduceLT, reduceCtorEq, TFWiM, FR]; first | done | rfl) (by simp only [hget, ↓reduceIte, if_true, if_false, FR]; first | done | rfl) ?_ <;> first | exact rfl | (simp only [ZK, look, loadv, loadn, loadnm, load1, load1m, hget, ↓reduceIte, Nat.reduceEqDiff, Nat.reduceAdd, Nat.reduceMul, Nat.reduceLeDiff, Nat.reduceLT, reduceCtorEq, TFWiM, FR]; done) | skip)
set_option maxRecDepth 8000 in
theorem fail_e (b : Nat) (f : Bool) : ACt Tryd.prog 86 [pt b 0] [(b, .cells [nilS, bv f] 2 88)] (fun r F' => r = .tup [] ∧ F' = [(b, .cells [nilS, bv true] 2 88)]) := by
  refine ACt.intro Tryd.func86 rfl (by kernel_rfl) (by simp [Tryd.ntmps86]) (fun cx => ?_)
  simp only [argE, Tryd.ntmps86, Tryd.results86]
  first | (have FRx := FR; clear FRx) | have FR := fr0
  have FA := Sm.mk (TFWiM)
  repeat' first | (apply Sm.mk; refine Ysn ?_) | refine WP.seq fun K hK => ?_ | (apply Ob.mk; exact Yo) | refine And.intro (Ob.out ?_) ?_ | refine Y1WiM ?_ | refine YzWiM ?_ | (refine WP.cond rfl (fun hc => ?_) (fun hc => ?_) <;> (try simp only [ZC, reduceCtorEq, ZD] at hc) <;> (try exact absurd hc (by decide)) <;> (try (exfalso; omega))) | refine Rt.mk (And.intro (fun hg => Sm.out ?_) fun hg => Sm.out ?_) | (refine Nu.mk ?_; first | (fail_if_success have := nb1); intro nb1 | (fail_if_success have := nb2); intro nb2 | (fail_if_success have := nb3); intro nb3 | intro nbz) | (refine Fr.mk ?_; intro hfr; replace FR := And.intro hfr FR; clear hfr; refine Sm.out ?_) | refine Two.mk ?_ ?_ | (apply Yxc; exact Yx) | refine Cs.mk fun hcs => Sm.out ?_ | go_step | omega | (simp only [maxLen_eq]; omega) | exact trivial | refine Or.inr (Rt.mk (And.intro (fun hg => Sm.out ?_) fun hg => Sm.out ?_))
  (refine OutQ.upd (by simp only [resv, ZK, look, loadv, loadn, loadnm, load1, load1m, hget, ↓reduceIte, Nat.reduceEqDiff, Nat.reduceAdd, Nat.reduceMul, Nat.reduceLeDiff, Nat.reduceLT, reduceCtorEq, TFWiM, FR]) (by simp only [resv, resA, ZK, look, loadv, loadn, loadnm, load1, load1m, hget, ↓reduceIte, Nat.reduceEqDiff, Nat.reduceAdd, Nat.reduceMul, Nat.reduceLeDiff, Nat.reduceLT, reduceCtorEq, TFWiM, FR]; first | done | rfl) (by simp only [hget, ↓reduceIte, if_true, if_false, FR]; first | done | rfl) ?_ <;> first | exact rfl | (simp only [ZK, look, loadv, loadn, loadnm, load1, load1m, hget, ↓reduceIte, Nat.reduceEqDiff, Nat.reduceAdd, Nat.reduceMul, Nat.reduceLeDiff, Nat.reduceLT, reduceCtorEq, TFWiM, FR]; done) | skip)
def TFWiP :=
  And.intro (And.intro (And.intro (And.intro tyc3 zmb3) (And.intro tyc4 (And.intro zmb4 tyc5))) (And.intro (And.intro zmb5 (And.intro tyc9 zmb9)) (And.intro tyc25 (And.intro zmb25 tyc53)))) (And.intro (And.intro (And.intro elt53 mkz53) (And.intro apT53 (And.intro elk53 zmb53))) (And.intro (And.intro Tryd.underlying3 (And.intro Tryd.underlying4 Tryd.underlying5)) (And.intro Tryd.underlying9 (And.intro Tryd.underlying25 Tryd.underlying53))))
theorem Y1WiP {G R : Prop} (r : R) (h : R → G := by intro r; first | (apply WP.region; exact rvc_sound _ _ (Sm.out r)) | exact WP.drawK rfl mixed (by decide +kernel) (Sm.out r) | (apply WP.block; exact r) | (apply WP.skip; exact Yq r) | (apply WP.exit; exact Yq r) | (apply WP.ret; exact Sm.out r) | exact WP.cond rfl (fun _ => r) (fun hg => absurd hg (by decide)) | exact WP.cond rfl (fun hg => absurd hg (by decide)) (fun _ => r) | exact Rt.mk (And.intro (fun _ => Sm.out r) fun hg => absurd hg (by decide)) | exact Rt.mk (And.intro (fun hg => absurd hg (by decide)) fun _ => Sm.out r)) : G := h r
theorem YzWiP {G R : Prop} (r : R) (h : R → G := by intro r; first | (apply ExG.no; exact Sm.out r) | (apply Or.inl; apply ExG.no; exact Sm.out r) | exact Or.inl (And.intro (fun hg => absurd hg (by decide)) (ExG.no (Sm.out r)))) : G := h r
theorem putL_len (s : Int) (n : Nat) (hn : n < 18446744073709551616) : (putL s n).length ≤ 9 := by
  have h1 : lenN n ≤ 64 := lenN_le.2 hn
  unfold putL; simp [byteL_len]; omega
set_option maxRecDepth 8000 in
set_option maxHeartbeats 1000000 in
theorem put_ct (b0 cap0 : Nat) (zs : List Int) (s : Int) (n : Nat) (hz : zs.length ≤ 1000000) (hc1 : zs.length ≤ cap0) (hc2 : cap0 ≤ 9223372036854775807) (hn : n < 18446744073709551616) :
    ACt Tryd.prog 84 [ms b0 0 zs.length cap0, iv .u8 s, nu n] [(b0, .zs .u8 zs cap0 5)] (Row .u8 5 (zs ++ putL s n)) := by
  refine ACt.intro Tryd.func84 rfl (by kernel_rfl) (by simp [Tryd.ntmps84]) (fun cx => ?_)
  simp only [argE, Tryd.ntmps84, Tryd.results84]
  have h1 : lenN n ≤ 64 := lenN_le.2 hn
  obtain ⟨kk, hkk⟩ : ∃ kk, kk = (lenN n + 7) / 8 := ⟨_, rfl⟩
  have hkk8 : kk ≤ 8 := by omega
  have c1 := size_ct n hn
  rw [← hkk] at c1
  have w1 : IntKind.u8.wrap (kk : Int) = (kk : Int) := wrap_u8 (by omega) (by omega)
  obtain ⟨h, hh⟩ : ∃ h, h = ibit .or .u8 s (kk : Int) := ⟨_, rfl⟩
  obtain ⟨T, hT⟩ : ∃ T, T = zs ++ [h] := ⟨_, rfl⟩
  have hT' : zs ++ [h] = T := hT.symm
  have lT : T.length = zs.length + 1 := by rw [hT]; simp
  have hp : zs ++ putL s n = T ++ byteL n kk := by unfold putL; rw [← hkk, ← hh, hT]; simp
  have hh' : ibit .or .u8 s (kk : Int) = h := hh.symm
  first | (have FRx := FR; clear FRx) | have FR := fr0
  have FA := Sm.mk (And.intro TFWiP (And.intro w1 (And.intro hh' hT')))
  repeat' first | (apply Sm.mk; refine Ysn ?_) | refine WP.seq fun K hK => ?_ | (apply Ob.mk; exact Yo) | refine And.intro (Ob.out ?_) ?_ | refine Y1WiP ?_ | refine Yvn (c := c1) (r := ?_) | refine Yc (c := c1) (r := ?_) | refine YzWiP ?_ | (refine WP.cond rfl (fun hc => ?_) (fun hc => ?_) <;> (try simp only [ZC, reduceCtorEq, ZD] at hc) <;> (try exact absurd hc (by decide)) <;> (try (exfalso; omega))) | refine Rt.mk (And.intro (fun hg => Sm.out ?_) fun hg => Sm.out ?_) | (refine Nu.mk ?_; first | (fail_if_success have := nb1); intro nb1 | (fail_if_success have := nb2); intro nb2 | (fail_if_success have := nb3); intro nb3 | (fail_if_success have := nb4); intro nb4 | (fail_if_success have := nb5); intro nb5 | (fail_if_success have := nb6); intro nb6 | intro nbz) | (refine Fr.mk ?_; intro hfr; replace FR := And.intro hfr FR; clear hfr; refine Sm.out ?_) | refine Two.mk ?_ ?_ | (apply Yxc; exact Yx) | refine Cs.mk fun hcs => Sm.out ?_ | go_step | omega | (simp only [maxLen_eq]; omega) | exact trivial | refine Or.inr (Rt.mk (And.intro (fun hg => Sm.out ?_) fun hg => Sm.out ?_))
  refine WP.loop (Γ := UG) (fun g => ⟨[(7, iv .i64 g.k), (0, ms g.b 0 g.acc.length g.cap), (2, nu n)], [(g.b, .zs .u8 g.acc g.cap 5)]⟩)
    (fun g => g.acc ++ byteL n g.k = T ++ byteL n kk ∧ g.k ≤ kk ∧ g.acc.length + g.k ≤ 1000009 ∧ g.acc.length ≤ g.cap ∧ g.cap ≤ 9223372036854775807) (fun g => g.k) ⟨kk, T, nb2, nb3⟩
    ⟨by simp, by simp, by simp only; omega, by simp only; omega, by simp only; omega⟩ (Sub.pick (by simp [pickB, hget, hdel, FR, lT]) (by simp [look, lT])) ?_
  intro ⟨k, acc, b, cap⟩ ⟨g1, g2, g4, g5, g6⟩
  simp only at g1 g2 g4 g5 g6 ⊢
  (refine WP.nd fun hnd => ?_; simp only [ndF, fresh_cons, fresh_nil, and_true, ne_eq] at hnd; replace FR := And.intro hnd FR; clear hnd)
  cases k with
  | zero =>
    have k1 : decide (((0 : Nat) : Int) > 0) = false := by decide
    rw [byteL, List.append_nil] at g1
    first | (have FRx := FR; clear FRx) | have FR := fr0
    have FA := Sm.mk (And.intro TFWiP k1)
    repeat' first | (apply Sm.mk; refine Ysn ?_) | refine WP.seq fun K hK => ?_ | (apply Ob.mk; exact Yo) | refine And.intro (Ob.out ?_) ?_ | refine Y1WiP ?_ | refine YzWiP ?_ | (refine WP.cond rfl (fun hc => ?_) (fun hc => ?_) <;> (try simp only [ZC, reduceCtorEq, ZD] at hc) <;> (try exact absurd hc (by decide)) <;> (try (exfalso; omega))) | refine Rt.mk (And.intro (fun hg => Sm.out ?_) fun hg => Sm.out ?_) | (refine Nu.mk ?_; first | (fail_if_success have := nb1); intro nb1 | (fail_if_success have := nb2); intro nb2 | (fail_if_success have := nb3); intro nb3 | (fail_if_success have := nb4); intro nb4 | (fail_if_success have := nb5); intro nb5 | (fail_if_success have := nb6); intro nb6 | intro nbz) | (refine Fr.mk ?_; intro hfr; replace FR := And.intro hfr FR; clear hfr; refine Sm.out ?_) | refine Two.mk ?_ ?_ | (apply Yxc; exact Yx) | refine Cs.mk fun hcs => Sm.out ?_ | go_step | omega | (simp only [maxLen_eq]; omega) | exact trivial | refine Or.inr (Rt.mk (And.intro (fun hg => Sm.out ?_) fun hg => Sm.out ?_))
    (refine OutQ.row (by simp only [resv, ZK, look, loadv, loadn, loadnm, load1, load1m, hget, ↓reduceIte, Nat.reduceEqDiff, Nat.reduceAdd, Nat.reduceMul, Nat.reduceLeDiff, Nat.reduceLT, reduceCtorEq, TFWiP, FR]) (by simp only [resv, resA, ZK, look, loadv, loadn, loadnm, load1, load1m, hget, ↓reduceIte, Nat.reduceEqDiff, Nat.reduceAdd, Nat.reduceMul, Nat.reduceLeDiff, Nat.reduceLT, reduceCtorEq, TFWiP, FR]; first | done | rfl) (by simp only [hget, ↓reduceIte, if_true, if_false, FR]; first | done | rfl) ?_ ?_ ?_ ?_ <;> first | omega | (simp only [maxLen_eq]; omega) | skip)
    all_goals first | omega | (rw [hp, g1]; done) | (simp [hp, ← g1]; done)
  | succ k' =>
    have k1 : decide (((k' + 1 : Nat) : Int) > 0) = true := decide_eq_true (by omega)
    have e1 : IntKind.i64.wrap (((k' + 1 : Nat) : Int) - 1) = (k' : Int) := by rw [wrap_i64 (by omega) (by omega)]; try omega
    have e2 : IntKind.i64.wrap (8 * (k' : Int)) = ((8 * k' : Nat) : Int) := by rw [wrap_i64 (by omega) (by omega)]; try omega
    have e3 : 8 * k' ≤ 64 := by omega
    have e4 : (n : Int).fdiv (2 ^ (8 * k')) = ((n / 256 ^ k' : Nat) : Int) := by
      rw [Int.fdiv_eq_ediv_of_nonneg _ (by exact Int.le_of_lt (Int.pow_pos (by omega))), show (256 : Nat) = 2 ^ 8 from rfl, ← Nat.pow_mul]
      simp
    have e5 : IntKind.u8.wrap ((n / 256 ^ k' : Nat) : Int) = ((n / 256 ^ k' % 256 : Nat) : Int) := by rw [wrap_u8_mod]; omega
    obtain ⟨acc', ha⟩ : ∃ acc', acc' = acc ++ [((n / 256 ^ k' % 256 : Nat) : Int)] := ⟨_, rfl⟩
    have e6 : acc ++ [((n / 256 ^ k' % 256 : Nat) : Int)] = acc' := ha.symm
    have e7 : acc'.length = acc.length + 1 := by rw [ha]; simp
    first | (have FRx := FR; clear FRx) | have FR := fr0
    have FA := Sm.mk (And.intro TFWiP (And.intro k1 (And.intro e1 (And.intro e2 (And.intro e3 (And.intro e4 (And.intro e5 e6)))))))
    repeat' first | (apply Sm.mk; refine Ysn ?_) | refine WP.seq fun K hK => ?_ | (apply Ob.mk; exact Yo) | refine And.intro (Ob.out ?_) ?_ | refine Y1WiP ?_ | refine YzWiP ?_ | (refine WP.cond rfl (fun hc => ?_) (fun hc => ?_) <;> (try simp only [ZC, reduceCtorEq, ZD] at hc) <;> (try exact absurd hc (by decide)) <;> (try (exfalso; omega))) | refine Rt.mk (And.intro (fun hg => Sm.out ?_) fun hg => Sm.out ?_) | (refine Nu.mk ?_; first | (fail_if_success have := nb1); intro nb1 | (fail_if_success have := nb2); intro nb2 | (fail_if_success have := nb3); intro nb3 | (fail_if_success have := nb4); intro nb4 | (fail_if_success have := nb5); intro nb5 | (fail_if_success have := nb6); intro nb6 | intro nbz) | (refine Fr.mk ?_; intro hfr; replace FR := And.intro hfr FR; clear hfr; refine Sm.out ?_) | refine Two.mk ?_ ?_ | (apply Yxc; exact Yx) | refine Cs.mk fun hcs => Sm.out ?_ | go_step | omega | (simp only [maxLen_eq]; omega) | exact trivial | refine Or.inr (Rt.mk (And.intro (fun hg => Sm.out ?_) fun hg => Sm.out ?_))
    refine ⟨⟨k', acc', nb5, nb6⟩, ⟨?_, by simp only; omega, by simp only; omega, by simp only; omega, by simp only; omega⟩, by simp only; omega, (Sub.pick (by simp [pickB, hget, hdel, FR, e7]) (by simp [look, e7]))⟩
    simp only
    rw [← g1, ha, byteL, List.append_assoc]; rfl
set_option maxRecDepth 8000 in
theorem num_ct (b0 cap0 : Nat) (zs : List Int) (n : Nat) (hz : zs.length ≤ 1000000) (hc1 : zs.length ≤ cap0) (hc2 : cap0 ≤ 9223372036854775807) (hn : n < 18446744073709551616) :
    ACt Tryd.prog 58 [ms b0 0 zs.length cap0, nu n] [(b0, .zs .u8 zs cap0 5)] (Row .u8 5 (zs ++ putL 0 n)) := by
  refine ACt.intro Tryd.func58 rfl (by kernel_rfl) (by simp [Tryd.ntmps58]) (fun cx => ?_)
  simp only [argE, Tryd.ntmps58, Tryd.results58]
  have c1 := put_ct b0 cap0 zs 0 n hz hc1 hc2 hn
  obtain ⟨T, hT⟩ : ∃ T, T = zs ++ putL 0 n := ⟨_, rfl⟩
  rw [← hT] at c1 ⊢
  first | (have FRx := FR; clear FRx) | have FR := fr0
  have FA := Sm.mk (TFWiP)
  repeat' first | (apply Sm.mk; refine Ysn ?_) | refine WP.seq fun K hK => ?_ | (apply Ob.mk; exact Yo) | refine And.intro (Ob.out ?_) ?_ | refine Y1WiP ?_ | refine Yvn (c := c1) (r := ?_) | refine Yc (c := c1) (r := ?_) | refine YzWiP ?_ | (refine WP.cond rfl (fun hc => ?_) (fun hc => ?_) <;> (try simp only [ZC, reduceCtorEq, ZD] at hc) <;> (try exact absurd hc (by decide)) <;> (try (exfalso; omega))) | refine Rt.mk (And.intro (fun hg => Sm.out ?_) fun hg => Sm.out ?_) | (refine Nu.mk ?_; first | (fail_if_success have := nb1); intro nb1 | (fail_if_success have := nb2); intro nb2 | (fail_if_success have := nb3); intro nb3 | (fail_if_success have := nb4); intro nb4 | (fail_if_success have := nb5); intro nb5 | (fail_if_success have := nb6); intro nb6 | intro nbz) | (refine Fr.mk ?_; intro hfr; replace FR := And.intro hfr FR; clear hfr; refine Sm.out ?_) | refine Two.mk ?_ ?_ | (apply Yxc; exact Yx) | refine Cs.mk fun hcs => Sm.out ?_ | go_step | omega | (simp only [maxLen_eq]; omega) | exact trivial | refine Or.inr (Rt.mk (And.intro (fun hg => Sm.out ?_) fun hg => Sm.out ?_))
  (refine OutQ.row (by simp only [resv, ZK, look, loadv, loadn, loadnm, load1, load1m, hget, ↓reduceIte, Nat.reduceEqDiff, Nat.reduceAdd, Nat.reduceMul, Nat.reduceLeDiff, Nat.reduceLT, reduceCtorEq, TFWiP, FR]) (by simp only [resv, resA, ZK, look, loadv, loadn, loadnm, load1, load1m, hget, ↓reduceIte, Nat.reduceEqDiff, Nat.reduceAdd, Nat.reduceMul, Nat.reduceLeDiff, Nat.reduceLT, reduceCtorEq, TFWiP, FR]; first | done | rfl) (by simp only [hget, ↓reduceIte, if_true, if_false, FR]; first | done | rfl) ?_ ?_ ?_ ?_ <;> first | omega | (simp only [maxLen_eq]; omega) | skip)
  all_goals rfl
def strL (s : ByteArray) : List Int := s.data.toList.map fun b => (b.toNat : Int)
theorem strL_len (s : ByteArray) : (strL s).length = s.size := by simp [strL]
set_option maxRecDepth 8000 in
theorem text_ct (b0 cap0 : Nat) (zs : List Int) (s : ByteArray) (hz : zs.length ≤ 100000) (hc1 : zs.length ≤ cap0) (hc2 : cap0 ≤ 9223372036854775807) (hs : s.size ≤ 100000) :
    ACt Tryd.prog 85 [ms b0 0 zs.length cap0, .lit (.string s)] [(b0, .zs .u8 zs cap0 5)] (Row .u8 5 (zs ++ putL 0 s.size ++ strL s)) := by
  refine ACt.intro Tryd.func85 rfl (by kernel_rfl) (by simp [Tryd.ntmps85]) (fun cx => ?_)
  simp only [argE, Tryd.ntmps85, Tryd.results85]
  have e : IntKind.u64.wrap (s.size : Int) = (s.size : Int) := wrap_u64_nat (by omega)
  have c1 := num_ct b0 cap0 zs s.size (by omega) hc1 hc2 (by omega)
  have hl := putL_len 0 s.size (by omega)
  have hl2 : (zs ++ putL 0 s.size).length ≤ 100009 := by simp; omega
  obtain ⟨T, hT⟩ : ∃ T, T = zs ++ putL 0 s.size := ⟨_, rfl⟩
  rw [← hT] at c1 hl2 ⊢
  have hs2 : s.data.toList.map (fun b => (b.toNat : Int)) = strL s := rfl
  have hs3 := strL_len s
  obtain ⟨V, hV⟩ : ∃ V, V = T ++ strL s := ⟨_, rfl⟩
  have lV : V.length = T.length + s.size := by rw [hV]; simp [strL_len]
  have hV' : T ++ strL s = V := hV.symm
  rw [hV']
  first | (have FRx := FR; clear FRx) | have FR := fr0
  have FA := Sm.mk (And.intro TFWiP (And.intro e (And.intro hs2 (And.intro hs3 hV'))))
  repeat' first | (apply Sm.mk; refine Ysn ?_) | refine WP.seq fun K hK => ?_ | (apply Ob.mk; exact Yo) | refine And.intro (Ob.out ?_) ?_ | refine Y1WiP ?_ | refine Yvn (c := c1) (r := ?_) | refine Yc (c := c1) (r := ?_) | refine YzWiP ?_ | (refine WP.cond rfl (fun hc => ?_) (fun hc => ?_) <;> (try simp only [ZC, reduceCtorEq, ZD] at hc) <;> (try exact absurd hc (by decide)) <;> (try (exfalso; omega))) | refine Rt.mk (And.intro (fun hg => Sm.out ?_) fun hg => Sm.out ?_) | (refine Nu.mk ?_; first | (fail_if_success have := nb1); intro nb1 | (fail_if_success have := nb2); intro nb2 | (fail_if_success have := nb3); intro nb3 | (fail_if_success have := nb4); intro nb4 | (fail_if_success have := nb5); intro nb5 | (fail_if_success have := nb6); intro nb6 | intro nbz) | (refine Fr.mk ?_; intro hfr; replace FR := And.intro hfr FR; clear hfr; refine Sm.out ?_) | refine Two.mk ?_ ?_ | (apply Yxc; exact Yx) | refine Cs.mk fun hcs => Sm.out ?_ | go_step | omega | (simp only [maxLen_eq]; omega) | exact trivial | refine Or.inr (Rt.mk (And.intro (fun hg => Sm.out ?_) fun hg => Sm.out ?_))
  (refine OutQ.row (by simp only [resv, ZK, look, loadv, loadn, loadnm, load1, load1m, hget, ↓reduceIte, Nat.reduceEqDiff, Nat.reduceAdd, Nat.reduceMul, Nat.reduceLeDiff, Nat.reduceLT, reduceCtorEq, TFWiP, FR]) (by simp only [resv, resA, ZK, look, loadv, loadn, loadnm, load1, load1m, hget, ↓reduceIte, Nat.reduceEqDiff, Nat.reduceAdd, Nat.reduceMul, Nat.reduceLeDiff, Nat.reduceLT, reduceCtorEq, TFWiP, FR]; first | done | rfl) (by simp only [hget, ↓reduceIte, if_true, if_false, FR]; first | done | rfl) ?_ ?_ ?_ ?_ <;> first | omega | (simp only [maxLen_eq]; omega) | skip)
  all_goals first | omega | rfl | (rw [lV]; done)
set_option maxRecDepth 8000 in
theorem flag_ct (b0 cap0 : Nat) (zs : List Int) (f : Bool) (hz : zs.length ≤ 1000000) (hc1 : zs.length ≤ cap0) (hc2 : cap0 ≤ 9223372036854775807) :
    ACt Tryd.prog 60 [ms b0 0 zs.length cap0, bv f] [(b0, .zs .u8 zs cap0 5)] (Row .u8 5 (zs ++ [if f then 1 else 0])) := by
  refine ACt.intro Tryd.func60 rfl (by kernel_rfl) (by simp [Tryd.ntmps60]) (fun cx => ?_)
  simp only [argE, Tryd.ntmps60, Tryd.results60]
  cases f
  · obtain ⟨T, hT⟩ : ∃ T, T = zs ++ [0] := ⟨_, rfl⟩
    have hT' : zs ++ [0] = T := hT.symm
    have lT : T.length = zs.length + 1 := by rw [hT]; simp
    rw [show (if false = true then (1 : Int) else 0) = 0 from rfl, hT']
    first | (have FRx := FR; clear FRx) | have FR := fr0
    have FA := Sm.mk (And.intro TFWiP hT')
    repeat' first | (apply Sm.mk; refine Ysn ?_) | refine WP.seq fun K hK => ?_ | (apply Ob.mk; exact Yo) | refine And.intro (Ob.out ?_) ?_ | refine Y1WiP ?_ | refine YzWiP ?_ | (refine WP.cond rfl (fun hc => ?_) (fun hc => ?_) <;> (try simp only [ZC, reduceCtorEq, ZD] at hc) <;> (try exact absurd hc (by decide)) <;> (try (exfalso; omega))) | refine Rt.mk (And.intro (fun hg => Sm.out ?_) fun hg => Sm.out ?_) | (refine Nu.mk ?_; first | (fail_if_success have := nb1); intro nb1 | (fail_if_success have := nb2); intro nb2 | (fail_if_success have := nb3); intro nb3 | (fail_if_success have := nb4); intro nb4 | (fail_if_success have := nb5); intro nb5 | (fail_if_success have := nb6); intro nb6 | intro nbz) | (refine Fr.mk ?_; intro hfr; replace FR := And.intro hfr FR; clear hfr; refine Sm.out ?_) | refine Two.mk ?_ ?_ | (apply Yxc; exact Yx) | refine Cs.mk fun hcs => Sm.out ?_ | go_step | omega | (simp only [maxLen_eq]; omega) | exact trivial | refine Or.inr (Rt.mk (And.intro (fun hg => Sm.out ?_) fun hg => Sm.out ?_))
    (refine OutQ.row (by simp only [resv, ZK, look, loadv, loadn, loadnm, load1, load1m, hget, ↓reduceIte, Nat.reduceEqDiff, Nat.reduceAdd, Nat.reduceMul, Nat.reduceLeDiff, Nat.reduceLT, reduceCtorEq, TFWiP, FR]) (by simp only [resv, resA, ZK, look, loadv, loadn, loadnm, load1, load1m, hget, ↓reduceIte, Nat.reduceEqDiff, Nat.reduceAdd, Nat.reduceMul, Nat.reduceLeDiff, Nat.reduceLT, reduceCtorEq, TFWiP, FR]; first | done | rfl) (by simp only [hget, ↓reduceIte, if_true, if_false, FR]; first | done | rfl) ?_ ?_ ?_ ?_ <;> first | omega | (simp only [maxLen_eq]; omega) | skip)
    all_goals first | omega | rfl | (rw [lT]; done)
  · obtain ⟨T, hT⟩ : ∃ T, T = zs ++ [1] := ⟨_, rfl⟩
    have hT' : zs ++ [1] = T := hT.symm
    have lT : T.length = zs.length + 1 := by rw [hT]; simp
    rw [show (if true = true then (1 : Int) else 0) = 1 from rfl, hT']
    first | (have FRx := FR; clear FRx) | have FR := fr0
    have FA := Sm.mk (And.intro TFWiP hT')
    repeat' first | (apply Sm.mk; refine Ysn ?_) | refine WP.seq fun K hK => ?_ | (apply Ob.mk; exact Yo) | refine And.intro (Ob.out ?_) ?_ | refine Y1WiP ?_ | refine YzWiP ?_ | (refine WP.cond rfl (fun hc => ?_) (fun hc => ?_) <;> (try simp only [ZC, reduceCtorEq, ZD] at hc) <;> (try exact absurd hc (by decide)) <;> (try (exfalso; omega))) | refine Rt.mk (And.intro (fun hg => Sm.out ?_) fun hg => Sm.out ?_) | (refine Nu.mk ?_; first | (fail_if_success have := nb1); intro nb1 | (fail_if_success have := nb2); intro nb2 | (fail_if_success have := nb3); intro nb3 | (fail_if_success have := nb4); intro nb4 | (fail_if_success have := nb5); intro nb5 | (fail_if_success have := nb6); intro nb6 | intro nbz) | (refine Fr.mk ?_; intro hfr; replace FR := And.intro hfr FR; clear hfr; refine Sm.out ?_) | refine Two.mk ?_ ?_ | (apply Yxc; exact Yx) | refine Cs.mk fun hcs => Sm.out ?_ | go_step | omega | (simp only [maxLen_eq]; omega) | exact trivial | refine Or.inr (Rt.mk (And.intro (fun hg => Sm.out ?_) fun hg => Sm.out ?_))
    (refine OutQ.row (by simp only [resv, ZK, look, loadv, loadn, loadnm, load1, load1m, hget, ↓reduceIte, Nat.reduceEqDiff, Nat.reduceAdd, Nat.reduceMul, Nat.reduceLeDiff, Nat.reduceLT, reduceCtorEq, TFWiP, FR]) (by simp only [resv, resA, ZK, look, loadv, loadn, loadnm, load1, load1m, hget, ↓reduceIte, Nat.reduceEqDiff, Nat.reduceAdd, Nat.reduceMul, Nat.reduceLeDiff, Nat.reduceLT, reduceCtorEq, TFWiP, FR]; first | done | rfl) (by simp only [hget, ↓reduceIte, if_true, if_false, FR]; first | done | rfl) ?_ ?_ ?_ ?_ <;> first | omega | (simp only [maxLen_eq]; omega) | skip)
    all_goals first | omega | rfl | (rw [lT]; done)
def TFWiQ :=
  And.intro (And.intro (And.intro (And.intro tyc3 zmb3) (And.intro tyc4 (And.intro zmb4 tyc5))) (And.intro (And.intro zmb5 (And.intro tyc9 zmb9)) (And.intro tyc25 (And.intro zmb25 tyc53)))) (And.intro (And.intro (And.intro elt53 mkz53) (And.intro apT53 (And.intro elk53 zmb53))) (And.intro (And.intro Tryd.underlying3 (And.intro Tryd.underlying4 Tryd.underlying5)) (And.intro Tryd.underlying9 (And.intro Tryd.underlying25 Tryd.underlying53))))
theorem Y1WiQ {G R : Prop} (r : R) (h : R → G := by intro r; first | (apply WP.region; exact rvc_sound _ _ (Sm.out r)) | exact WP.drawK rfl mixed (by decide +kernel) (Sm.out r) | (apply WP.block; exact r) | (apply WP.skip; exact Yq r) | (apply WP.exit; exact Yq r) | (apply WP.ret; exact Sm.out r) | exact WP.cond rfl (fun _ => r) (fun hg => absurd hg (by decide)) | exact WP.cond rfl (fun hg => absurd hg (by decide)) (fun _ => r) | exact Rt.mk (And.intro (fun _ => Sm.out r) fun hg => absurd hg (by decide)) | exact Rt.mk (And.intro (fun hg => absurd hg (by decide)) fun _ => Sm.out r)) : G := h r
theorem YzWiQ {G R : Prop} (r : R) (h : R → G := by intro r; first | (apply ExG.no; exact Sm.out r) | (apply Or.inl; apply ExG.no; exact Sm.out r) | exact Or.inl (And.intro (fun hg => absurd hg (by decide)) (ExG.no (Sm.out r)))) : G := h r
theorem YsWiQ0 {P Q : Prop} (q : Q) (h : P = Q := by (try (conv => lhs; simp -dsimp only [ZK, rvc, capA, appA, litL, mkfv, drawF, headN, pureH, stp, dvc, calleeOf, gcall, pev, eff, newB, okd, og, ogs, ogo, ogp, slv, bltv, opd, litv, strip, one, both, putE, St.put, look, gdOf, gdv, picka, pickv, pickw, binv, bini, bins, binb, binp, binq, isSlT, bina, shp, eqCells, unv, convv, nilv, faddv, addp, idxav, idxp, load1, load1m, loadn, loadnm, loadv, hget, hset, hrep, hdel, slicev, slice3v, bnd, shift1, lenv, capv, IntKind.bits, extractv, fieldv, indexv, min2v, max2v, mkiv, tasv, tasz, cellsA, fillA, buildv, stC, oneC, rowMB, intsA, plN, appE, appZ, appC, appS, srcB, appNZ, appNC, VwL, srcC, srcZ, srcM, isBoolT, isPtrT, isSliceT, uOk, Value.oneCell', Nat.reducePow, Int.reducePow, Nat.reduceAdd, Nat.reduceMul, Nat.reduceSub, Nat.reduceLT, Nat.reduceLeDiff, Nat.reduceEqDiff, Nat.reduceBEq, Nat.reduceDiv, Nat.reduceMod, ↓reduceIte, reduceCtorEq, Int.reduceToNat, Int.reduceLT, Int.reduceLE, TFWiQ, SeqQ, BlkQ, LoopQ, BodyQ, List.singleton_append, FA.out, FR])) <;> exact rfl) : P := h.mpr q
theorem size_le {n j : Nat} : (lenN n + 7) / 8 ≤ j ↔ n < 256 ^ j := by
  rw [show (256 : Nat) = 2 ^ 8 from rfl, ← Nat.pow_mul, ← lenN_le]; omega
theorem or0 : ∀ k : Nat, k < 9 → ibit .or .u8 0 (k : Int) = (k : Int) := by decide +kernel
theorem or16 : ∀ k : Nat, k < 9 → ibit .or .u8 16 (k : Int) = 16 + (k : Int) := by decide +kernel
structure NG where
  j : Nat
  b : Nat
  cap : Nat
set_option maxRecDepth 8000 in
set_option maxHeartbeats 1000000 in
theorem refNum_ct (n : Nat) (hn : n < 18446744073709551616) : ACt Tryd.prog 66 [nu n] [] (Row .u8 5 (putL 0 n)) := by
  refine ACt.intro Tryd.func66 rfl (by kernel_rfl) (by simp [Tryd.ntmps66]) (fun cx => ?_)
  simp only [argE, Tryd.ntmps66, Tryd.results66]
  have h1 : lenN n ≤ 64 := lenN_le.2 hn
  obtain ⟨kk, hkk⟩ : ∃ kk, kk = (lenN n + 7) / 8 := ⟨_, rfl⟩
  have hkk8 : kk ≤ 8 := by omega
  have hp : putL 0 n = (kk : Int) :: byteL n kk := by unfold putL; rw [← hkk, or0 kk (by omega)]
  first | (have FRx := FR; clear FRx) | have FR := fr0
  have FA := Sm.mk (TFWiQ)
  repeat' first | (apply Sm.mk; refine Ysn ?_) | refine WP.seq fun K hK => ?_ | (apply Ob.mk; exact Yo) | refine And.intro (Ob.out ?_) ?_ | refine Y1WiQ ?_ | refine YzWiQ ?_ | (refine WP.cond rfl (fun hc => ?_) (fun hc => ?_) <;> (try simp only [ZC, reduceCtorEq, ZD] at hc) <;> (try exact absurd hc (by decide)) <;> (try (exfalso; omega))) | refine Rt.mk (And.intro (fun hg => Sm.out ?_) fun hg => Sm.out ?_) | (refine Nu.mk ?_; first | (fail_if_success have := nb1); intro nb1 | (fail_if_success have := nb2); intro nb2 | (fail_if_success have := nb3); intro nb3 | (fail_if_success have := nb4); intro nb4 | intro nbz) | (refine Fr.mk ?_; intro hfr; replace FR := And.intro hfr FR; clear hfr; refine Sm.out ?_) | refine Two.mk ?_ ?_ | (apply Yxc; exact Yx) | refine Cs.mk fun hcs => Sm.out ?_ | go_step | omega | (simp only [maxLen_eq]; omega) | exact trivial | refine Or.inr (Rt.mk (And.intro (fun hg => Sm.out ?_) fun hg => Sm.out ?_))
  refine WP.loop (Γ := NG) (fun g => ⟨[(0, nu (n / 256 ^ g.j)), (3, ms g.b 0 g.j g.cap)], [(g.b, .zs .u8 (byteL n g.j) g.cap 5)]⟩)
    (fun g => g.j ≤ kk ∧ g.j ≤ g.cap ∧ g.cap ≤ 9223372036854775807) (fun g => kk - g.j) ⟨0, nb1, 0⟩
    ⟨by simp, by simp, by simp⟩ (Sub.pick (by simp [pickB, hget, hdel, FR, byteL]) (by simp [look, byteL])) ?_
  intro ⟨j, b, cap⟩ ⟨g1, g2, g3⟩
  simp only at g1 g2 g3 ⊢
  (refine WP.nd fun hnd => ?_; simp only [ndF, fresh_cons, fresh_nil, and_true, ne_eq] at hnd; replace FR := And.intro hnd FR; clear hnd)
  have hlj := byteL_len n j
  have hle : n / 256 ^ j ≤ n := Nat.div_le_self _ _
  by_cases hj : j < kk
  · have hpos : 0 < n / 256 ^ j := by
      have : ¬ (lenN n + 7) / 8 ≤ j := by omega
      rw [size_le] at this
      exact Nat.div_pos (by omega) (Nat.pow_pos (by omega))
    have k1 : decide (((n / 256 ^ j : Nat) : Int) > 0) = true := decide_eq_true (by omega)
    obtain ⟨q, hq⟩ : ∃ q, q = n / 256 ^ j := ⟨_, rfl⟩
    have hnx : byteL n (j + 1) = ((q % 256 : Nat) : Int) :: byteL n j := by rw [byteL, ← hq]
    have hdq : n / 256 ^ (j + 1) = q / 256 := by rw [hq, Nat.pow_succ, Nat.div_div_eq_div_mul]
    rw [← hq] at k1 hle ⊢
    have e1 : (q : Int).tmod 256 = ((q % 256 : Nat) : Int) := by rw [Int.tmod_eq_emod_of_nonneg (by omega)]; simp
    have e2 : IntKind.u64.wrap ((q % 256 : Nat) : Int) = ((q % 256 : Nat) : Int) := wrap_u64_nat (by omega)
    have e3 : IntKind.u8.wrap ((q % 256 : Nat) : Int) = ((q % 256 : Nat) : Int) := wrap_u8 (by omega) (by omega)
    have e4 : (q : Int).tdiv 256 = ((q / 256 : Nat) : Int) := by rw [Int.tdiv_eq_ediv_of_nonneg (by omega)]; simp
    have e5 : IntKind.u64.wrap ((q / 256 : Nat) : Int) = ((q / 256 : Nat) : Int) := wrap_u64_nat (by omega)
    obtain ⟨L, hL⟩ : ∃ L, L = byteL n j := ⟨_, rfl⟩
    rw [← hL] at hlj hnx ⊢
    have e6 : L.take j = L := List.take_of_length_le (by omega)
    have q0 : 0 + j ≤ j := by omega
    have q1 : 1 + j = j + 1 := by omega
    first | (have FRx := FR; clear FRx) | have FR := fr0
    have FA := Sm.mk (And.intro TFWiQ (And.intro k1 (And.intro e1 (And.intro e2 (And.intro e3 (And.intro e4 (And.intro e5 (And.intro e6 hlj))))))))
    repeat' first | (apply Sm.mk; refine YsWiQ0 ?_) | refine WP.seq fun K hK => ?_ | (apply Ob.mk; exact Yo) | refine And.intro (Ob.out ?_) ?_ | refine Y1WiQ ?_ | refine YzWiQ ?_ | (refine WP.cond rfl (fun hc => ?_) (fun hc => ?_) <;> (try simp only [ZC, reduceCtorEq, ZD] at hc) <;> (try exact absurd hc (by decide)) <;> (try (exfalso; omega))) | refine Rt.mk (And.intro (fun hg => Sm.out ?_) fun hg => Sm.out ?_) | (refine Nu.mk ?_; first | (fail_if_success have := nb1); intro nb1 | (fail_if_success have := nb2); intro nb2 | (fail_if_success have := nb3); intro nb3 | (fail_if_success have := nb4); intro nb4 | intro nbz) | (refine Fr.mk ?_; intro hfr; replace FR := And.intro hfr FR; clear hfr; refine Sm.out ?_) | refine Two.mk ?_ ?_ | (apply Yxc; exact Yx) | refine Cs.mk fun hcs => Sm.out ?_ | go_step | omega | (simp only [maxLen_eq]; omega) | exact trivial | refine Or.inr (Rt.mk (And.intro (fun hg => Sm.out ?_) fun hg => Sm.out ?_))
    exact ⟨⟨j + 1, nb3, nb4⟩, ⟨by simp only; omega, by simp only; omega, by simp only; omega⟩, by simp only; omega, (Sub.pick (by simp [pickB, hget, hdel, FR, hdq, hnx, q1]) (by simp [look, hdq, hnx, q1]))⟩
  · obtain rfl : j = kk := by omega
    have hz : n / 256 ^ j = 0 := by
      have := size_le.1 (Nat.le_of_eq hkk.symm)
      exact Nat.div_eq_of_lt this
    have k1 : decide (((n / 256 ^ j : Nat) : Int) > 0) = false := by rw [hz]; rfl
    obtain ⟨L, hL⟩ : ∃ L, L = byteL n j := ⟨_, rfl⟩
    rw [← hL] at hlj hp ⊢
    have e6 : L.take j = L := List.take_of_length_le (by omega)
    have w1 : IntKind.u8.wrap (j : Int) = (j : Int) := wrap_u8 (by omega) (by omega)
    have lp : (putL 0 n).length = 1 + j := by rw [hp]; simp [hlj]; omega
    first | (have FRx := FR; clear FRx) | have FR := fr0
    have FA := Sm.mk (And.intro TFWiQ (And.intro k1 (And.intro e6 (And.intro w1 hlj))))
    repeat' first | (apply Sm.mk; refine YsWiQ0 ?_) | refine WP.seq fun K hK => ?_ | (apply Ob.mk; exact Yo) | refine And.intro (Ob.out ?_) ?_ | refine Y1WiQ ?_ | refine YzWiQ ?_ | (refine WP.cond rfl (fun hc => ?_) (fun hc => ?_) <;> (try simp only [ZC, reduceCtorEq, ZD] at hc) <;> (try exact absurd hc (by decide)) <;> (try (exfalso; omega))) | refine Rt.mk (And.intro (fun hg => Sm.out ?_) fun hg => Sm.out ?_) | (refine Nu.mk ?_; first | (fail_if_success have := nb1); intro nb1 | (fail_if_success have := nb2); intro nb2 | (fail_if_success have := nb3); intro nb3 | (fail_if_success have := nb4); intro nb4 | intro nbz) | (refine Fr.mk ?_; intro hfr; replace FR := And.intro hfr FR; clear hfr; refine Sm.out ?_) | refine Two.mk ?_ ?_ | (apply Yxc; exact Yx) | refine Cs.mk fun hcs => Sm.out ?_ | go_step | omega | (simp only [maxLen_eq]; omega) | exact trivial | refine Or.inr (Rt.mk (And.intro (fun hg => Sm.out ?_) fun hg => Sm.out ?_))
    (refine OutQ.row (by simp only [resv, ZK, look, loadv, loadn, loadnm, load1, load1m, hget, ↓reduceIte, Nat.reduceEqDiff, Nat.reduceAdd, Nat.reduceMul, Nat.reduceLeDiff, Nat.reduceLT, reduceCtorEq, TFWiQ, FR]) (by simp only [resv, resA, ZK, look, loadv, loadn, loadnm, load1, load1m, hget, ↓reduceIte, Nat.reduceEqDiff, Nat.reduceAdd, Nat.reduceMul, Nat.reduceLeDiff, Nat.reduceLT, reduceCtorEq, TFWiQ, FR]; first | done | rfl) (by simp only [hget, ↓reduceIte, if_true, if_false, FR]; first | done | rfl) ?_ ?_ ?_ ?_ <;> first | omega | (simp only [maxLen_eq]; omega) | skip)
    all_goals first | omega | (rw [hp]; done) | (rw [lp]; done) | (simp [hp, hlj]; done) | (simp [hp, hlj]; omega)
set_option maxRecDepth 8000 in
theorem refText_ct (s : ByteArray) (hs : s.size ≤ 100000) : ACt Tryd.prog 90 [.lit (.string s)] [] (Row .u8 5 (putL 0 s.size ++ strL s)) := by
  refine ACt.intro Tryd.func90 rfl (by kernel_rfl) (by simp [Tryd.ntmps90]) (fun cx => ?_)
  simp only [argE, Tryd.ntmps90, Tryd.results90]
  have e : IntKind.u64.wrap (s.size : Int) = (s.size : Int) := wrap_u64_nat (by omega)
  have c1 := refNum_ct s.size (by omega)
  have hl := putL_len 0 s.size (by omega)
  obtain ⟨T, hT⟩ : ∃ T, T = putL 0 s.size := ⟨_, rfl⟩
  rw [← hT] at c1 hl ⊢
  have hs2 : s.data.toList.map (fun b => (b.toNat : Int)) = strL s := rfl
  have hs3 := strL_len s
  obtain ⟨V, hV⟩ : ∃ V, V = T ++ strL s := ⟨_, rfl⟩
  have lV : V.length = T.length + s.size := by rw [hV]; simp [strL_len]
  have hV' : T ++ strL s = V := hV.symm
  rw [hV']
  first | (have FRx := FR; clear FRx) | have FR := fr0
  have FA := Sm.mk (And.intro TFWiQ (And.intro e (And.intro hs2 (And.intro hs3 hV'))))
  repeat' first | (apply Sm.mk; refine Ysn ?_) | refine WP.seq fun K hK => ?_ | (apply Ob.mk; exact Yo) | refine And.intro (Ob.out ?_) ?_ | refine Y1WiQ ?_ | refine Yvn (c := c1) (r := ?_) | refine Yc (c := c1) (r := ?_) | refine YzWiQ ?_ | (refine WP.cond rfl (fun hc => ?_) (fun hc => ?_) <;> (try simp only [ZC, reduceCtorEq, ZD] at hc) <;> (try exact absurd hc (by decide)) <;> (try (exfalso; omega))) | refine Rt.mk (And.intro (fun hg => Sm.out ?_) fun hg => Sm.out ?_) | (refine Nu.mk ?_; first | (fail_if_success have := nb1); intro nb1 | (fail_if_success have := nb2); intro nb2 | (fail_if_success have := nb3); intro nb3 | (fail_if_success have := nb4); intro nb4 | intro nbz) | (refine Fr.mk ?_; intro hfr; replace FR := And.intro hfr FR; clear hfr; refine Sm.out ?_) | refine Two.mk ?_ ?_ | (apply Yxc; exact Yx) | refine Cs.mk fun hcs => Sm.out ?_ | go_step | omega | (simp only [maxLen_eq]; omega) | exact trivial | refine Or.inr (Rt.mk (And.intro (fun hg => Sm.out ?_) fun hg => Sm.out ?_))
  (refine OutQ.row (by simp only [resv, ZK, look, loadv, loadn, loadnm, load1, load1m, hget, ↓reduceIte, Nat.reduceEqDiff, Nat.reduceAdd, Nat.reduceMul, Nat.reduceLeDiff, Nat.reduceLT, reduceCtorEq, TFWiQ, FR]) (by simp only [resv, resA, ZK, look, loadv, loadn, loadnm, load1, load1m, hget, ↓reduceIte, Nat.reduceEqDiff, Nat.reduceAdd, Nat.reduceMul, Nat.reduceLeDiff, Nat.reduceLT, reduceCtorEq, TFWiQ, FR]; first | done | rfl) (by simp only [hget, ↓reduceIte, if_true, if_false, FR]; first | done | rfl) ?_ ?_ ?_ ?_ <;> first | omega | (simp only [maxLen_eq]; omega) | skip)
  all_goals first | omega | rfl | (rw [lV]; done)
def TFWiR :=
  And.intro (And.intro (And.intro (And.intro (And.intro tyc0 (And.intro tyc3 zmb3)) (And.intro tyc4 (And.intro zmb4 tyc5))) (And.intro (And.intro zmb5 (And.intro tyc9 zmb9)) (And.intro tyc25 (And.intro zmb25 tyc34)))) (And.intro (And.intro (And.intro zmb34 (And.intro tyc53 elt53)) (And.intro mkz53 (And.intro apT53 elk53))) (And.intro (And.intro zmb53 (And.intro tyc55 mth55_86)) (And.intro mth55_89 (And.intro mth55_88 con55))))) (And.intro (And.intro (And.intro (And.intro zmb55 (And.intro tyc88 foff88_0)) (And.intro fpart88_0 (And.intro foff88_1 fpart88_1))) (And.intro (And.intro zmb88 (And.intro bldT88 tyc118)) (And.intro tyc120 (And.intro tyc150 zmb150)))) (And.intro (And.intro (And.intro Tryd.underlying0 (And.intro Tryd.underlying3 Tryd.underlying4)) (And.intro Tryd.underlying5 (And.intro Tryd.underlying9 Tryd.underlying25))) (And.intro (And.intro Tryd.underlying34 (And.intro Tryd.underlying53 Tryd.underlying55)) (And.intro (And.intro Tryd.underlying88 Tryd.underlying118) (And.intro Tryd.underlying120 Tryd.underlying150)))))
theorem Y1WiR {G R : Prop} (r : R) (h : R → G := by intro r; first | (apply WP.region; exact rvc_sound _ _ (Sm.out r)) | exact WP.drawK rfl mixed (by decide +kernel) (Sm.out r) | (apply WP.block; exact r) | (apply WP.skip; exact Yq r) | (apply WP.exit; exact Yq r) | (apply WP.ret; exact Sm.out r) | exact WP.cond rfl (fun _ => r) (fun hg => absurd hg (by decide)) | exact WP.cond rfl (fun hg => absurd hg (by decide)) (fun _ => r) | exact Rt.mk (And.intro (fun _ => Sm.out r) fun hg => absurd hg (by decide)) | exact Rt.mk (And.intro (fun hg => absurd hg (by decide)) fun _ => Sm.out r)) : G := h r
theorem YzWiR {G R : Prop} (r : R) (h : R → G := by intro r; first | (apply ExG.no; exact Sm.out r) | (apply Or.inl; apply ExG.no; exact Sm.out r) | exact Or.inl (And.intro (fun hg => absurd hg (by decide)) (ExG.no (Sm.out r)))) : G := h r
theorem YsWiR0 {P Q : Prop} (q : Q) (h : P = Q := by (try (conv => lhs; simp -dsimp only [ZK, rvc, capA, appA, litL, mkfv, drawF, headN, pureH, stp, dvc, calleeOf, gcall, pev, eff, newB, okd, og, ogs, ogo, ogp, slv, bltv, opd, litv, strip, one, both, putE, St.put, look, gdOf, gdv, picka, pickv, pickw, binv, bini, bins, binb, binp, binq, isSlT, bina, shp, eqCells, unv, convv, nilv, faddv, addp, idxav, idxp, load1, load1m, loadn, loadnm, loadv, hget, hset, hrep, hdel, slicev, slice3v, bnd, shift1, lenv, capv, IntKind.bits, extractv, fieldv, indexv, min2v, max2v, mkiv, tasv, tasz, cellsA, fillA, buildv, stC, oneC, rowMB, intsA, plN, appE, appZ, appC, appS, srcB, appNZ, appNC, VwL, srcC, srcZ, srcM, isBoolT, isPtrT, isSliceT, uOk, Value.oneCell', Nat.reducePow, Int.reducePow, Nat.reduceAdd, Nat.reduceMul, Nat.reduceSub, Nat.reduceLT, Nat.reduceLeDiff, Nat.reduceEqDiff, Nat.reduceBEq, Nat.reduceDiv, Nat.reduceMod, ↓reduceIte, reduceCtorEq, Int.reduceToNat, Int.reduceLT, Int.reduceLE, TFWiR, SeqQ, BlkQ, LoopQ, BodyQ, List.getD_cons_zero, FA.out, FR])) <;> exact rfl) : P := h.mpr q
abbrev rd (zs : List Int) (f : Bool) : MB := .cells [.slz .u8 zs, bv f] 2 88
set_option maxRecDepth 8000 in
theorem badR (b : Nat) (zs : List Int) (f : Bool) : ACt Tryd.prog 35 [pt b 0] [(b, rd zs f)] (fun r F' => r = bv f ∧ F' = [(b, rd zs f)]) := by
  refine ACt.intro Tryd.func35 rfl (by kernel_rfl) (by simp [Tryd.ntmps35]) (fun cx => ?_)
  simp only [argE, Tryd.ntmps35, Tryd.results35]
  first | (have FRx := FR; clear FRx) | have FR := fr0
  have FA := Sm.mk (TFWiR)
  repeat' first | (apply Sm.mk; refine Ysn ?_) | refine WP.seq fun K hK => ?_ | (apply Ob.mk; exact Yo) | refine And.intro (Ob.out ?_) ?_ | refine Y1WiR ?_ | refine YzWiR ?_ | (refine WP.cond rfl (fun hc => ?_) (fun hc => ?_) <;> (try simp only [ZC, reduceCtorEq, ZD] at hc) <;> (try exact absurd hc (by decide)) <;> (try (exfalso; omega))) | refine Rt.mk (And.intro (fun hg => Sm.out ?_) fun hg => Sm.out ?_) | (refine Nu.mk ?_; first | (fail_if_success have := nb1); intro nb1 | (fail_if_success have := nb2); intro nb2 | (fail_if_success have := nb3); intro nb3 | intro nbz) | (refine Fr.mk ?_; intro hfr; replace FR := And.intro hfr FR; clear hfr; refine Sm.out ?_) | refine Two.mk ?_ ?_ | (apply Yxc; exact Yx) | refine Cs.mk fun hcs => Sm.out ?_ | go_step | omega | (simp only [maxLen_eq]; omega) | exact trivial | refine Or.inr (Rt.mk (And.intro (fun hg => Sm.out ?_) fun hg => Sm.out ?_))
  (refine OutQ.upd (by simp only [resv, ZK, look, loadv, loadn, loadnm, load1, load1m, hget, ↓reduceIte, Nat.reduceEqDiff, Nat.reduceAdd, Nat.reduceMul, Nat.reduceLeDiff, Nat.reduceLT, reduceCtorEq, TFWiR, FR]) (by simp only [resv, resA, ZK, look, loadv, loadn, loadnm, load1, load1m, hget, ↓reduceIte, Nat.reduceEqDiff, Nat.reduceAdd, Nat.reduceMul, Nat.reduceLeDiff, Nat.reduceLT, reduceCtorEq, TFWiR, FR]; first | done | rfl) (by simp only [hget, ↓reduceIte, if_true, if_false, FR]; first | done | rfl) ?_ <;> first | exact rfl | (simp only [ZK, look, loadv, loadn, loadnm, load1, load1m, hget, ↓reduceIte, Nat.reduceEqDiff, Nat.reduceAdd, Nat.reduceMul, Nat.reduceLeDiff, Nat.reduceLT, reduceCtorEq, TFWiR, FR]; done) | skip)
set_option maxRecDepth 8000 in
theorem endR (b : Nat) : ACt Tryd.prog 33 [pt b 0] [(b, rd [] false)] (fun r F' => r = iv .i64 0 ∧ F' = [(b, rd [] false)]) := by
  refine ACt.intro Tryd.func33 rfl (by kernel_rfl) (by simp [Tryd.ntmps33]) (fun cx => ?_)
  simp only [argE, Tryd.ntmps33, Tryd.results33]
  have d : decide ((0 : Int) > 0) = false := by decide
  have d2 : decide (((0 : Nat) : Int) > 0) = false := by decide
  first | (have FRx := FR; clear FRx) | have FR := fr0
  have FA := Sm.mk (And.intro TFWiR (And.intro d d2))
  repeat' first | (apply Sm.mk; refine Ysn ?_) | refine WP.seq fun K hK => ?_ | (apply Ob.mk; exact Yo) | refine And.intro (Ob.out ?_) ?_ | refine Y1WiR ?_ | refine Yun (c := badR b [] false) (r := ?_) | refine YzWiR ?_ | (refine WP.cond rfl (fun hc => ?_) (fun hc => ?_) <;> (try simp only [ZC, reduceCtorEq, ZD] at hc) <;> (try exact absurd hc (by decide)) <;> (try (exfalso; omega))) | refine Rt.mk (And.intro (fun hg => Sm.out ?_) fun hg => Sm.out ?_) | (refine Nu.mk ?_; first | (fail_if_success have := nb1); intro nb1 | (fail_if_success have := nb2); intro nb2 | (fail_if_success have := nb3); intro nb3 | intro nbz) | (refine Fr.mk ?_; intro hfr; replace FR := And.intro hfr FR; clear hfr; refine Sm.out ?_) | refine Two.mk ?_ ?_ | (apply Yxc; exact Yx) | refine Cs.mk fun hcs => Sm.out ?_ | go_step | omega | (simp only [maxLen_eq]; omega) | exact trivial | refine Or.inr (Rt.mk (And.intro (fun hg => Sm.out ?_) fun hg => Sm.out ?_))
  (refine OutQ.upd (by simp only [resv, ZK, look, loadv, loadn, loadnm, load1, load1m, hget, ↓reduceIte, Nat.reduceEqDiff, Nat.reduceAdd, Nat.reduceMul, Nat.reduceLeDiff, Nat.reduceLT, reduceCtorEq, TFWiR, FR]) (by simp only [resv, resA, ZK, look, loadv, loadn, loadnm, load1, load1m, hget, ↓reduceIte, Nat.reduceEqDiff, Nat.reduceAdd, Nat.reduceMul, Nat.reduceLeDiff, Nat.reduceLT, reduceCtorEq, TFWiR, FR]; first | done | rfl) (by simp only [hget, ↓reduceIte, if_true, if_false, FR]; first | done | rfl) ?_ <;> first | exact rfl | (simp only [ZK, look, loadv, loadn, loadnm, load1, load1m, hget, ↓reduceIte, Nat.reduceEqDiff, Nat.reduceAdd, Nat.reduceMul, Nat.reduceLeDiff, Nat.reduceLT, reduceCtorEq, TFWiR, FR]; done) | skip)
set_option maxRecDepth 8000 in
theorem takeR (b : Nat) (zs : List Int) (n : Nat) (hn : n ≤ zs.length) (hz : zs.length ≤ 1000000) :
    ACt Tryd.prog 88 [pt b 0, nu n] [(b, rd zs false)] (fun r F' => r = .tup [.slz .u8 (zs.take n), bv true] ∧ F' = [(b, rd (zs.drop n) false)]) := by
  refine ACt.intro Tryd.func88 rfl (by kernel_rfl) (by simp [Tryd.ntmps88]) (fun cx => ?_)
  simp only [argE, Tryd.ntmps88, Tryd.results88]
  have w : IntKind.u64.wrap (zs.length : Int) = (zs.length : Int) := wrap_u64_nat (by omega)
  have d : decide ((n : Int) > zs.length) = false := by simp; omega
  have e : zs.take zs.length = zs := List.take_length
  first | (have FRx := FR; clear FRx) | have FR := fr0
  have FA := Sm.mk (And.intro TFWiR (And.intro w (And.intro d e)))
  repeat' first | (apply Sm.mk; refine Ysn ?_) | refine WP.seq fun K hK => ?_ | (apply Ob.mk; exact Yo) | refine And.intro (Ob.out ?_) ?_ | refine Y1WiR ?_ | refine Yun (c := badR b zs false) (r := ?_) | refine YzWiR ?_ | (refine WP.cond rfl (fun hc => ?_) (fun hc => ?_) <;> (try simp only [ZC, reduceCtorEq, ZD] at hc) <;> (try exact absurd hc (by decide)) <;> (try (exfalso; omega))) | refine Rt.mk (And.intro (fun hg => Sm.out ?_) fun hg => Sm.out ?_) | (refine Nu.mk ?_; first | (fail_if_success have := nb1); intro nb1 | (fail_if_success have := nb2); intro nb2 | (fail_if_success have := nb3); intro nb3 | intro nbz) | (refine Fr.mk ?_; intro hfr; replace FR := And.intro hfr FR; clear hfr; refine Sm.out ?_) | refine Two.mk ?_ ?_ | (apply Yxc; exact Yx) | refine Cs.mk fun hcs => Sm.out ?_ | go_step | omega | (simp only [maxLen_eq]; omega) | exact trivial | refine Or.inr (Rt.mk (And.intro (fun hg => Sm.out ?_) fun hg => Sm.out ?_))
  (refine OutQ.upd (by simp only [resv, ZK, look, loadv, loadn, loadnm, load1, load1m, hget, ↓reduceIte, Nat.reduceEqDiff, Nat.reduceAdd, Nat.reduceMul, Nat.reduceLeDiff, Nat.reduceLT, reduceCtorEq, TFWiR, FR]) (by simp only [resv, resA, ZK, look, loadv, loadn, loadnm, load1, load1m, hget, ↓reduceIte, Nat.reduceEqDiff, Nat.reduceAdd, Nat.reduceMul, Nat.reduceLeDiff, Nat.reduceLT, reduceCtorEq, TFWiR, FR]; first | done | rfl) (by simp only [hget, ↓reduceIte, if_true, if_false, FR]; first | done | rfl) ?_ <;> first | exact rfl | (simp only [ZK, look, loadv, loadn, loadnm, load1, load1m, hget, ↓reduceIte, Nat.reduceEqDiff, Nat.reduceAdd, Nat.reduceMul, Nat.reduceLeDiff, Nat.reduceLT, reduceCtorEq, TFWiR, FR]; done) | skip)
theorem byteL_hd {n k : Nat} (h : n < 256 ^ (k + 1)) (h2 : 256 ^ k ≤ n) : n / 256 ^ k % 256 ≠ 0 := by
  have h3 : n / 256 ^ k < 256 := by rw [Nat.div_lt_iff_lt_mul (Nat.pow_pos (by omega))]; rw [Nat.pow_succ, Nat.mul_comm] at h; exact h
  have h4 : 1 ≤ n / 256 ^ k := Nat.div_pos h2 (Nat.pow_pos (by omega))
  omega
theorem byteL_at (n : Nat) : ∀ (k j : Nat), j < k → (byteL n k).getD j 0 = ((n / 256 ^ (k - 1 - j) % 256 : Nat) : Int)
  | 0, j, h => by omega
  | k + 1, 0, _ => by simp [byteL]
  | k + 1, j + 1, h => by
    rw [byteL, List.getD_cons_succ, byteL_at n k j (by omega), show k + 1 - 1 - (j + 1) = k - 1 - j by omega]
set_option maxRecDepth 8000 in
theorem or8 (a c : Nat) (ha : a * 256 < 18446744073709551616) (hc : c < 256) : ibit .or .u64 ((a * 256 : Nat) : Int) (c : Int) = ((a * 256 + c : Nat) : Int) := by
  have h3 : a * 256 + c < 18446744073709551616 := by omega
  have e : ibit .or .u64 ((a * 256 : Nat) : Int) (c : Int) = IntKind.u64.wrap ((BitVec.ofInt 64 ((a * 256 : Nat) : Int) ||| BitVec.ofInt 64 ((c : Nat) : Int)).toNat : Int) := rfl
  have h2 : a * 256 ||| c = a * 256 + c := by
    have := Nat.two_pow_add_eq_or_of_lt (i := 8) (b := c) (by omega) a
    rw [Nat.mul_comm a 256]; exact this.symm
  rw [e, ofInt_nat, ofInt_nat, BitVec.toNat_or, BitVec.toNat_ofNat, BitVec.toNat_ofNat, Nat.mod_eq_of_lt ha, Nat.mod_eq_of_lt (show c < 2 ^ 64 by omega), h2]
  exact wrap_u64_nat h3
structure GG where
  j : Nat
set_option maxRecDepth 8000 in
set_option maxHeartbeats 2000000 in
theorem getR (b : Nat) (hd sg sgn : Int) (n k : Nat) (rest : List Int) (hk : k = (lenN n + 7) / 8) (hn : n < 18446744073709551616) (hr : rest.length ≤ 100000) (h1 : ibit .and .u8 hd sgn = sg) (h2 : ibit .andNot .u8 hd sgn = (k : Int)) :
    ACt Tryd.prog 89 [pt b 0, iv .u8 sgn] [(b, rd (hd :: byteL n k ++ rest) false)] (fun r F' => r = .tup [iv .u8 sg, nu n] ∧ F' = [(b, rd rest false)]) := by
  refine ACt.intro Tryd.func89 rfl (by kernel_rfl) (by simp [Tryd.ntmps89]) (fun cx => ?_)
  simp only [argE, Tryd.ntmps89, Tryd.results89]
  have hl : lenN n ≤ 64 := lenN_le.2 hn
  have hk8 : k ≤ 8 := by omega
  have hlt : n < 256 ^ k := size_le.1 (Nat.le_of_eq hk.symm)
  have hlb := byteL_len n k
  obtain ⟨Z, hZ⟩ : ∃ Z, Z = hd :: byteL n k ++ rest := ⟨_, rfl⟩
  have lZ : Z.length = 1 + k + rest.length := by rw [hZ]; simp [hlb]; omega
  have c1 := takeR b Z 1 (by omega) (by omega)
  rw [show Z.take 1 = [hd] by rw [hZ]; simp] at c1
  obtain ⟨V, hV⟩ : ∃ V, V = byteL n k ++ rest := ⟨_, rfl⟩
  rw [show Z.drop 1 = V by rw [hZ, hV]; simp] at c1
  have lV : V.length = k + rest.length := by rw [hV]; simp [hlb]
  have c2 := takeR b V k (by omega) (by omega)
  rw [show V.take k = byteL n k by rw [hV]; exact List.take_left' hlb, show V.drop k = rest by rw [hV]; exact List.drop_left' hlb] at c2
  have c3 : ACt Tryd.prog 88 [pt b 0, iv .u64 1] [(b, rd Z false)] (fun r F' => r = .tup [.slz .u8 [hd], bv true] ∧ F' = [(b, rd V false)]) := c1
  have d1 : decide ((k : Int) > 8) = false := by simp; omega
  have w1 : IntKind.u64.wrap (k : Int) = (k : Int) := wrap_u64_nat (by omega)
  obtain ⟨L, hL⟩ : ∃ L, L = byteL n k := ⟨_, rfl⟩
  rw [← hL] at c2 hlb
  rw [← hZ]
  have cc : (decide ((k : Int) > 0) && (L.getD 0 0 == 0)) = false := by
    by_cases h0 : k = 0
    · rw [h0]; rfl
    · have e : L.getD 0 0 = ((n / 256 ^ (k - 1 - 0) % 256 : Nat) : Int) := by rw [hL]; exact byteL_at n k 0 (by omega)
      have hge : 256 ^ (k - 1) ≤ n := by
        apply Classical.byContradiction; intro hc
        have := size_le.2 (show n < 256 ^ (k - 1) by omega)
        omega
      have hne := byteL_hd (k := k - 1) (by rw [show k - 1 + 1 = k by omega]; exact hlt) hge
      rw [Nat.sub_zero] at e
      have hx : L.getD 0 0 ≠ 0 := by rw [e]; exact fun hz => hne (by exact_mod_cast hz)
      rw [beq_eq_false_iff_ne.2 hx, Bool.and_false]
  have hz0 : n / 256 ^ k = 0 := Nat.div_eq_of_lt hlt
  by_cases h0 : k = 0
  · have d2 : decide ((k : Int) > 0) = false := by simp; omega
    first | (have FRx := FR; clear FRx) | have FR := fr0
    have FA := Sm.mk (And.intro TFWiR (And.intro h1 (And.intro h2 (And.intro d1 (And.intro d2 w1)))))
    repeat' first | (apply Sm.mk; refine YsWiR0 ?_) | refine WP.seq fun K hK => ?_ | (apply Ob.mk; exact Yo) | refine And.intro (Ob.out ?_) ?_ | ((fail_if_success (show WP _ _ _ (.region 14 _ _) _ _)); refine Y1WiR ?_) | (refine CallV.upd (by simp only [hget, ↓reduceIte, FR, h1, h2, d1, d2, w1, List.getD_cons_zero]; first | done | rfl) (c3) (Sm.out ?_)) | (refine CallV.upd (by simp only [hget, ↓reduceIte, FR, h1, h2, d1, d2, w1, List.getD_cons_zero]; first | done | rfl) (c2) (Sm.out ?_)) | refine YzWiR ?_ | (refine WP.cond rfl (fun hc => ?_) (fun hc => ?_) <;> (try simp only [ZC, reduceCtorEq, ZD] at hc) <;> (try exact absurd hc (by decide)) <;> (try (exfalso; omega))) | refine Rt.mk (And.intro (fun hg => Sm.out ?_) fun hg => Sm.out ?_) | (refine Nu.mk ?_; first | (fail_if_success have := nb1); intro nb1 | (fail_if_success have := nb2); intro nb2 | (fail_if_success have := nb3); intro nb3 | intro nbz) | (refine Fr.mk ?_; intro hfr; replace FR := And.intro hfr FR; clear hfr; refine Sm.out ?_) | refine Two.mk ?_ ?_ | (apply Yxc; exact Yx) | refine Cs.mk fun hcs => Sm.out ?_ | go_step | omega | (simp only [maxLen_eq]; omega) | exact trivial | refine Or.inr (Rt.mk (And.intro (fun hg => Sm.out ?_) fun hg => Sm.out ?_))
    first | (have FRx := FR; clear FRx) | have FR := fr0
    have FA := Sm.mk (And.intro TFWiR hlb)
    repeat' first | (apply Sm.mk; refine Ysn ?_) | refine WP.seq fun K hK => ?_ | (apply Ob.mk; exact Yo) | refine And.intro (Ob.out ?_) ?_ | refine Y1WiR ?_ | refine YzWiR ?_ | (refine WP.cond rfl (fun hc => ?_) (fun hc => ?_) <;> (try simp only [ZC, reduceCtorEq, ZD] at hc) <;> (try exact absurd hc (by decide)) <;> (try (exfalso; omega))) | refine Rt.mk (And.intro (fun hg => Sm.out ?_) fun hg => Sm.out ?_) | (refine Nu.mk ?_; first | (fail_if_success have := nb1); intro nb1 | (fail_if_success have := nb2); intro nb2 | (fail_if_success have := nb3); intro nb3 | intro nbz) | (refine Fr.mk ?_; intro hfr; replace FR := And.intro hfr FR; clear hfr; refine Sm.out ?_) | refine Two.mk ?_ ?_ | (apply Yxc; exact Yx) | refine Cs.mk fun hcs => Sm.out ?_ | go_step | omega | (simp only [maxLen_eq]; omega) | exact trivial | refine Or.inr (Rt.mk (And.intro (fun hg => Sm.out ?_) fun hg => Sm.out ?_))
    refine WP.loop (Γ := GG) (fun g => ⟨[(58, iv .i64 g.j), (57, iv .i64 k), (56, .slz .u8 L), (11, nu (n / 256 ^ (k - g.j))), (8, iv .u8 sg)], [(b, rd rest false)]⟩) (fun g => g.j ≤ k) (fun g => k - g.j) ⟨0⟩ (by simp) (Sub.pick (by simp [pickB, hget, hdel, FR, hlb, hz0]) (by simp [look, hlb, hz0])) ?_
    intro ⟨j⟩ hj
    simp only at hj ⊢
    by_cases hjk : j < k
    · have k1 : decide ((j : Int) < k) = true := by simp; omega
      have g1 : IntKind.i64.wrap ((j : Int) + 1) = ((j + 1 : Nat) : Int) := by rw [wrap_i64 (by omega) (by omega)]; omega
      have e3 : L.getD j 0 = ((n / 256 ^ (k - 1 - j) % 256 : Nat) : Int) := by rw [hL]; exact byteL_at n k j hjk
      obtain ⟨A, hA⟩ : ∃ A, A = n / 256 ^ (k - j) := ⟨_, rfl⟩
      obtain ⟨C, hC⟩ : ∃ C, C = n / 256 ^ (k - 1 - j) := ⟨_, rfl⟩
      have hAC : A = C / 256 := by rw [hA, hC, show k - j = (k - 1 - j) + 1 by omega, Nat.pow_succ, Nat.div_div_eq_div_mul]
      have hCn : C ≤ n := by rw [hC]; exact Nat.div_le_self _ _
      have hC2 : n / 256 ^ (k - (j + 1)) = C := by rw [hC, show k - (j + 1) = k - 1 - j by omega]
      rw [← hC] at e3
      rw [← hA]
      have e4 : IntKind.u64.wrap ((A : Int) * 256) = ((A * 256 : Nat) : Int) := by rw [show (A : Int) * 256 = ((A * 256 : Nat) : Int) by simp, wrap_u64_nat (by omega)]
      have e5 : IntKind.u64.wrap ((C % 256 : Nat) : Int) = ((C % 256 : Nat) : Int) := wrap_u64_nat (by omega)
      have e6 := or8 A (C % 256) (by omega) (by omega)
      have e7 : A * 256 + C % 256 = C := by omega
      rw [e7] at e6
      have q : j < L.length := by omega
      first | (have FRx := FR; clear FRx) | have FR := fr0
      have FA := Sm.mk (And.intro TFWiR (And.intro k1 (And.intro g1 (And.intro e3 (And.intro e4 (And.intro e5 (And.intro e6 (And.intro q hlb))))))))
      repeat' first | (apply Sm.mk; refine Ysn ?_) | refine WP.seq fun K hK => ?_ | (apply Ob.mk; exact Yo) | refine And.intro (Ob.out ?_) ?_ | refine Y1WiR ?_ | refine YzWiR ?_ | (refine WP.cond rfl (fun hc => ?_) (fun hc => ?_) <;> (try simp only [ZC, reduceCtorEq, ZD] at hc) <;> (try exact absurd hc (by decide)) <;> (try (exfalso; omega))) | refine Rt.mk (And.intro (fun hg => Sm.out ?_) fun hg => Sm.out ?_) | (refine Nu.mk ?_; first | (fail_if_success have := nb1); intro nb1 | (fail_if_success have := nb2); intro nb2 | (fail_if_success have := nb3); intro nb3 | intro nbz) | (refine Fr.mk ?_; intro hfr; replace FR := And.intro hfr FR; clear hfr; refine Sm.out ?_) | refine Two.mk ?_ ?_ | (apply Yxc; exact Yx) | refine Cs.mk fun hcs => Sm.out ?_ | go_step | omega | (simp only [maxLen_eq]; omega) | exact trivial | refine Or.inr (Rt.mk (And.intro (fun hg => Sm.out ?_) fun hg => Sm.out ?_))
      all_goals exact ⟨⟨j + 1⟩, by simp only; omega, by simp only; omega, (Sub.pick (by simp [pickB, hget, hdel, FR, hC2]) (by simp [look, hC2]))⟩
    · have k1 : decide ((j : Int) < k) = false := by simp; omega
      obtain rfl : j = k := by omega
      have e8 : n / 256 ^ (j - j) = n := by simp
      first | (have FRx := FR; clear FRx) | have FR := fr0
      have FA := Sm.mk (And.intro TFWiR (And.intro k1 e8))
      repeat' first | (apply Sm.mk; refine Ysn ?_) | refine WP.seq fun K hK => ?_ | (apply Ob.mk; exact Yo) | refine And.intro (Ob.out ?_) ?_ | refine Y1WiR ?_ | refine YzWiR ?_ | (refine WP.cond rfl (fun hc => ?_) (fun hc => ?_) <;> (try simp only [ZC, reduceCtorEq, ZD] at hc) <;> (try exact absurd hc (by decide)) <;> (try (exfalso; omega))) | refine Rt.mk (And.intro (fun hg => Sm.out ?_) fun hg => Sm.out ?_) | (refine Nu.mk ?_; first | (fail_if_success have := nb1); intro nb1 | (fail_if_success have := nb2); intro nb2 | (fail_if_success have := nb3); intro nb3 | intro nbz) | (refine Fr.mk ?_; intro hfr; replace FR := And.intro hfr FR; clear hfr; refine Sm.out ?_) | refine Two.mk ?_ ?_ | (apply Yxc; exact Yx) | refine Cs.mk fun hcs => Sm.out ?_ | go_step | omega | (simp only [maxLen_eq]; omega) | exact trivial | refine Or.inr (Rt.mk (And.intro (fun hg => Sm.out ?_) fun hg => Sm.out ?_))
      (refine OutQ.upd (by simp only [resv, ZK, look, loadv, loadn, loadnm, load1, load1m, hget, ↓reduceIte, Nat.reduceEqDiff, Nat.reduceAdd, Nat.reduceMul, Nat.reduceLeDiff, Nat.reduceLT, reduceCtorEq, TFWiR, FR, e8]) (by simp only [resv, resA, ZK, look, loadv, loadn, loadnm, load1, load1m, hget, ↓reduceIte, Nat.reduceEqDiff, Nat.reduceAdd, Nat.reduceMul, Nat.reduceLeDiff, Nat.reduceLT, reduceCtorEq, TFWiR, FR, e8]; first | done | rfl) (by simp only [hget, ↓reduceIte, if_true, if_false, FR, e8]; first | done | rfl) ?_ <;> first | exact rfl | (simp only [ZK, look, loadv, loadn, loadnm, load1, load1m, hget, ↓reduceIte, Nat.reduceEqDiff, Nat.reduceAdd, Nat.reduceMul, Nat.reduceLeDiff, Nat.reduceLT, reduceCtorEq, TFWiR, FR, e8]; done) | skip)
  · have d2 : decide ((k : Int) > 0) = true := by simp; omega
    rw [d2, Bool.true_and] at cc
    have hL0 : 0 < L.length := by omega
    first | (have FRx := FR; clear FRx) | have FR := fr0
    have FA := Sm.mk (And.intro TFWiR (And.intro h1 (And.intro h2 (And.intro d1 (And.intro d2 (And.intro w1 (And.intro cc hL0)))))))
    repeat' first | (apply Sm.mk; refine YsWiR0 ?_) | refine WP.seq fun K hK => ?_ | (apply Ob.mk; exact Yo) | refine And.intro (Ob.out ?_) ?_ | ((fail_if_success (show WP _ _ _ (.region 14 _ _) _ _)); refine Y1WiR ?_) | (refine CallV.upd (by simp only [hget, ↓reduceIte, FR, h1, h2, d1, d2, w1, cc, hL0, List.getD_cons_zero]; first | done | rfl) (c3) (Sm.out ?_)) | (refine CallV.upd (by simp only [hget, ↓reduceIte, FR, h1, h2, d1, d2, w1, cc, hL0, List.getD_cons_zero]; first | done | rfl) (c2) (Sm.out ?_)) | refine YzWiR ?_ | (refine WP.cond rfl (fun hc => ?_) (fun hc => ?_) <;> (try simp only [ZC, reduceCtorEq, ZD] at hc) <;> (try exact absurd hc (by decide)) <;> (try (exfalso; omega))) | refine Rt.mk (And.intro (fun hg => Sm.out ?_) fun hg => Sm.out ?_) | (refine Nu.mk ?_; first | (fail_if_success have := nb1); intro nb1 | (fail_if_success have := nb2); intro nb2 | (fail_if_success have := nb3); intro nb3 | intro nbz) | (refine Fr.mk ?_; intro hfr; replace FR := And.intro hfr FR; clear hfr; refine Sm.out ?_) | refine Two.mk ?_ ?_ | (apply Yxc; exact Yx) | refine Cs.mk fun hcs => Sm.out ?_ | go_step | omega | (simp only [maxLen_eq]; omega) | exact trivial | refine Or.inr (Rt.mk (And.intro (fun hg => Sm.out ?_) fun hg => Sm.out ?_))
    first | (have FRx := FR; clear FRx) | have FR := fr0
    have FA := Sm.mk (And.intro TFWiR hlb)
    repeat' first | (apply Sm.mk; refine Ysn ?_) | refine WP.seq fun K hK => ?_ | (apply Ob.mk; exact Yo) | refine And.intro (Ob.out ?_) ?_ | refine Y1WiR ?_ | refine YzWiR ?_ | (refine WP.cond rfl (fun hc => ?_) (fun hc => ?_) <;> (try simp only [ZC, reduceCtorEq, ZD] at hc) <;> (try exact absurd hc (by decide)) <;> (try (exfalso; omega))) | refine Rt.mk (And.intro (fun hg => Sm.out ?_) fun hg => Sm.out ?_) | (refine Nu.mk ?_; first | (fail_if_success have := nb1); intro nb1 | (fail_if_success have := nb2); intro nb2 | (fail_if_success have := nb3); intro nb3 | intro nbz) | (refine Fr.mk ?_; intro hfr; replace FR := And.intro hfr FR; clear hfr; refine Sm.out ?_) | refine Two.mk ?_ ?_ | (apply Yxc; exact Yx) | refine Cs.mk fun hcs => Sm.out ?_ | go_step | omega | (simp only [maxLen_eq]; omega) | exact trivial | refine Or.inr (Rt.mk (And.intro (fun hg => Sm.out ?_) fun hg => Sm.out ?_))
    refine WP.loop (Γ := GG) (fun g => ⟨[(58, iv .i64 g.j), (57, iv .i64 k), (56, .slz .u8 L), (11, nu (n / 256 ^ (k - g.j))), (8, iv .u8 sg)], [(b, rd rest false)]⟩) (fun g => g.j ≤ k) (fun g => k - g.j) ⟨0⟩ (by simp) (Sub.pick (by simp [pickB, hget, hdel, FR, hlb, hz0]) (by simp [look, hlb, hz0])) ?_
    intro ⟨j⟩ hj
    simp only at hj ⊢
    by_cases hjk : j < k
    · have k1 : decide ((j : Int) < k) = true := by simp; omega
      have g1 : IntKind.i64.wrap ((j : Int) + 1) = ((j + 1 : Nat) : Int) := by rw [wrap_i64 (by omega) (by omega)]; omega
      have e3 : L.getD j 0 = ((n / 256 ^ (k - 1 - j) % 256 : Nat) : Int) := by rw [hL]; exact byteL_at n k j hjk
      obtain ⟨A, hA⟩ : ∃ A, A = n / 256 ^ (k - j) := ⟨_, rfl⟩
      obtain ⟨C, hC⟩ : ∃ C, C = n / 256 ^ (k - 1 - j) := ⟨_, rfl⟩
      have hAC : A = C / 256 := by rw [hA, hC, show k - j = (k - 1 - j) + 1 by omega, Nat.pow_succ, Nat.div_div_eq_div_mul]
      have hCn : C ≤ n := by rw [hC]; exact Nat.div_le_self _ _
      have hC2 : n / 256 ^ (k - (j + 1)) = C := by rw [hC, show k - (j + 1) = k - 1 - j by omega]
      rw [← hC] at e3
      rw [← hA]
      have e4 : IntKind.u64.wrap ((A : Int) * 256) = ((A * 256 : Nat) : Int) := by rw [show (A : Int) * 256 = ((A * 256 : Nat) : Int) by simp, wrap_u64_nat (by omega)]
      have e5 : IntKind.u64.wrap ((C % 256 : Nat) : Int) = ((C % 256 : Nat) : Int) := wrap_u64_nat (by omega)
      have e6 := or8 A (C % 256) (by omega) (by omega)
      have e7 : A * 256 + C % 256 = C := by omega
      rw [e7] at e6
      have q : j < L.length := by omega
      first | (have FRx := FR; clear FRx) | have FR := fr0
      have FA := Sm.mk (And.intro TFWiR (And.intro k1 (And.intro g1 (And.intro e3 (And.intro e4 (And.intro e5 (And.intro e6 (And.intro q hlb))))))))
      repeat' first | (apply Sm.mk; refine Ysn ?_) | refine WP.seq fun K hK => ?_ | (apply Ob.mk; exact Yo) | refine And.intro (Ob.out ?_) ?_ | refine Y1WiR ?_ | refine YzWiR ?_ | (refine WP.cond rfl (fun hc => ?_) (fun hc => ?_) <;> (try simp only [ZC, reduceCtorEq, ZD] at hc) <;> (try exact absurd hc (by decide)) <;> (try (exfalso; omega))) | refine Rt.mk (And.intro (fun hg => Sm.out ?_) fun hg => Sm.out ?_) | (refine Nu.mk ?_; first | (fail_if_success have := nb1); intro nb1 | (fail_if_success have := nb2); intro nb2 | (fail_if_success have := nb3); intro nb3 | intro nbz) | (refine Fr.mk ?_; intro hfr; replace FR := And.intro hfr FR; clear hfr; refine Sm.out ?_) | refine Two.mk ?_ ?_ | (apply Yxc; exact Yx) | refine Cs.mk fun hcs => Sm.out ?_ | go_step | omega | (simp only [maxLen_eq]; omega) | exact trivial | refine Or.inr (Rt.mk (And.intro (fun hg => Sm.out ?_) fun hg => Sm.out ?_))
      all_goals exact ⟨⟨j + 1⟩, by simp only; omega, by simp only; omega, (Sub.pick (by simp [pickB, hget, hdel, FR, hC2]) (by simp [look, hC2]))⟩
    · have k1 : decide ((j : Int) < k) = false := by simp; omega
      obtain rfl : j = k := by omega
      have e8 : n / 256 ^ (j - j) = n := by simp
      first | (have FRx := FR; clear FRx) | have FR := fr0
      have FA := Sm.mk (And.intro TFWiR (And.intro k1 e8))
      repeat' first | (apply Sm.mk; refine Ysn ?_) | refine WP.seq fun K hK => ?_ | (apply Ob.mk; exact Yo) | refine And.intro (Ob.out ?_) ?_ | refine Y1WiR ?_ | refine YzWiR ?_ | (refine WP.cond rfl (fun hc => ?_) (fun hc => ?_) <;> (try simp only [ZC, reduceCtorEq, ZD] at hc) <;> (try exact absurd hc (by decide)) <;> (try (exfalso; omega))) | refine Rt.mk (And.intro (fun hg => Sm.out ?_) fun hg => Sm.out ?_) | (refine Nu.mk ?_; first | (fail_if_success have := nb1); intro nb1 | (fail_if_success have := nb2); intro nb2 | (fail_if_success have := nb3); intro nb3 | intro nbz) | (refine Fr.mk ?_; intro hfr; replace FR := And.intro hfr FR; clear hfr; refine Sm.out ?_) | refine Two.mk ?_ ?_ | (apply Yxc; exact Yx) | refine Cs.mk fun hcs => Sm.out ?_ | go_step | omega | (simp only [maxLen_eq]; omega) | exact trivial | refine Or.inr (Rt.mk (And.intro (fun hg => Sm.out ?_) fun hg => Sm.out ?_))
      (refine OutQ.upd (by simp only [resv, ZK, look, loadv, loadn, loadnm, load1, load1m, hget, ↓reduceIte, Nat.reduceEqDiff, Nat.reduceAdd, Nat.reduceMul, Nat.reduceLeDiff, Nat.reduceLT, reduceCtorEq, TFWiR, FR, e8]) (by simp only [resv, resA, ZK, look, loadv, loadn, loadnm, load1, load1m, hget, ↓reduceIte, Nat.reduceEqDiff, Nat.reduceAdd, Nat.reduceMul, Nat.reduceLeDiff, Nat.reduceLT, reduceCtorEq, TFWiR, FR, e8]; first | done | rfl) (by simp only [hget, ↓reduceIte, if_true, if_false, FR, e8]; first | done | rfl) ?_ <;> first | exact rfl | (simp only [ZK, look, loadv, loadn, loadnm, load1, load1m, hget, ↓reduceIte, Nat.reduceEqDiff, Nat.reduceAdd, Nat.reduceMul, Nat.reduceLeDiff, Nat.reduceLT, reduceCtorEq, TFWiR, FR, e8]; done) | skip)
theorem and16 : ∀ k : Nat, k < 9 → ibit .and .u8 (16 + (k : Int)) 16 = 16 ∧ ibit .andNot .u8 (16 + (k : Int)) 16 = (k : Int) ∧ ibit .and .u8 (k : Int) 16 = 0 ∧ ibit .andNot .u8 (k : Int) 16 = (k : Int) ∧ ibit .and .u8 (k : Int) 0 = 0 ∧ ibit .andNot .u8 (k : Int) 0 = (k : Int) := by decide +kernel
theorem putL0 (n : Nat) (hn : n < 18446744073709551616) : ∃ k, k = (lenN n + 7) / 8 ∧ k < 9 ∧ putL 0 n = (k : Int) :: byteL n k ∧ putL 16 n = (16 + (k : Int)) :: byteL n k := by
  have hl : lenN n ≤ 64 := lenN_le.2 hn
  refine ⟨_, rfl, by omega, ?_, ?_⟩
  · unfold putL; rw [or0 _ (by omega)]
  · unfold putL; rw [or16 _ (by omega)]
theorem bstr_strL (s : ByteArray) : bstr (strL s) = s := by
  unfold bstr strL
  obtain ⟨a⟩ := s
  congr 1
  rw [List.map_map]
  have : ((fun n : Int => UInt8.ofNat n.toNat) ∘ fun b : UInt8 => (b.toNat : Int)) = id := by
    funext x; simp
  rw [this]; simp
end Go.Proofs.YtfknbndmabogjaaDoor.Wi
