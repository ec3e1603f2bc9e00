/-
  The walks and the laws that the statement leans on, part 17.
-/
import Derived.Test.YtpidkkgjgichdaaDoorZ16
namespace Go.Proofs.YtpidkkgjgichdaaDoor.Wi
open Go
set_option linter.unusedVariables false
set_option linter.unusedSimpArgs false
set_option linter.defProp false
def TFWiP :=
  And.intro (And.intro (And.intro (And.intro tyc0 (And.intro tyc2 zmb2)) (And.intro tyc3 (And.intro zmb3 tyc4))) (And.intro (And.intro zmb4 (And.intro tyc5 zmb5)) (And.intro (And.intro tyc9 zmb9) (And.intro tyc22 zmb22)))) (And.intro (And.intro (And.intro tyc33 (And.intro elt33 mkz33)) (And.intro (And.intro apT33 elk33) (And.intro zmb33 Tryd.underlying0))) (And.intro (And.intro Tryd.underlying2 (And.intro Tryd.underlying3 Tryd.underlying4)) (And.intro (And.intro Tryd.underlying5 Tryd.underlying9) (And.intro Tryd.underlying22 Tryd.underlying33))))
theorem Y1WiP {G R : Prop} (r : R) (h : R → G := by intro r; first | (apply WP.region; exact rvc_sound _ _ (Sm.out r)) | exact WP.drawK rfl mixed (by decide +kernel) (Sm.out r) | (apply WP.block; exact r) | (apply WP.skip; exact Yq r) | (apply WP.exit; exact Yq r) | (apply WP.ret; exact Sm.out r) | exact WP.cond rfl (fun _ => r) (fun hg => absurd hg (by decide)) | exact WP.cond rfl (fun hg => absurd hg (by decide)) (fun _ => r) | exact Rt.mk (And.intro (fun _ => Sm.out r) fun hg => absurd hg (by decide)) | exact Rt.mk (And.intro (fun hg => absurd hg (by decide)) fun _ => Sm.out r)) : G := h r
theorem YzWiP {G R : Prop} (r : R) (h : R → G := by intro r; first | (apply ExG.no; exact Sm.out r) | (apply Or.inl; apply ExG.no; exact Sm.out r) | exact Or.inl (And.intro (fun hg => absurd hg (by decide)) (ExG.no (Sm.out r)))) : G := h r
theorem putL_len (s : Int) (n : Nat) (hn : n < 18446744073709551616) : (putL s n).length ≤ 9 := by
  have h1 : lenN n ≤ 64 := lenN_le.2 hn
  unfold putL; simp [byteL_len]; omega
set_option maxRecDepth 8000 in
set_option maxHeartbeats 1000000 in
theorem put_ct (b0 cap0 : Nat) (zs : List Int) (s : Int) (n : Nat) (hz : zs.length ≤ 100000) (hc1 : zs.length ≤ cap0) (hc2 : cap0 ≤ 9223372036854775807) (hn : n < 18446744073709551616) :
    ACt Tryd.prog 48 [ms b0 0 zs.length cap0, iv .u8 s, nu n] [(b0, .zs .u8 zs cap0 5)] (Row .u8 5 (zs ++ putL s n)) := by
  refine ACt.intro Tryd.func48 rfl (by kernel_rfl) (by simp [Tryd.ntmps48]) (fun cx => ?_)
  simp only [argE, Tryd.ntmps48, Tryd.results48]
  have h1 : lenN n ≤ 64 := lenN_le.2 hn
  obtain ⟨kk, hkk⟩ : ∃ kk, kk = (lenN n + 7) / 8 := ⟨_, rfl⟩
  have hkk8 : kk ≤ 8 := by omega
  have c1 := size_ct n hn
  rw [← hkk] at c1
  have w1 : IntKind.u8.wrap (kk : Int) = (kk : Int) := wrap_u8 (by omega) (by omega)
  obtain ⟨h, hh⟩ : ∃ h, h = ibit .or .u8 s (kk : Int) := ⟨_, rfl⟩
  obtain ⟨T, hT⟩ : ∃ T, T = zs ++ [h] := ⟨_, rfl⟩
  have hT' : zs ++ [h] = T := hT.symm
  have lT : T.length = zs.length + 1 := by rw [hT]; simp
  have hp : zs ++ putL s n = T ++ byteL n kk := by unfold putL; rw [← hkk, ← hh, hT]; simp
  have hh' : ibit .or .u8 s (kk : Int) = h := hh.symm
  first | (have FRx := FR; clear FRx) | have FR := fr0
  have FA := Sm.mk (And.intro TFWiP (And.intro w1 (And.intro hh' hT')))
  repeat' first | (apply Sm.mk; refine Ysn ?_) | refine WP.seq fun K hK => ?_ | (apply Ob.mk; exact Yo) | refine And.intro (Ob.out ?_) ?_ | refine Y1WiP ?_ | refine Yvn (c := c1) (r := ?_) | refine Yc (c := c1) (r := ?_) | refine YzWiP ?_ | (refine WP.cond rfl (fun hc => ?_) (fun hc => ?_) <;> (try simp only [ZC, reduceCtorEq, ZD] at hc) <;> (try exact absurd hc (by decide)) <;> (try (exfalso; omega))) | refine Rt.mk (And.intro (fun hg => Sm.out ?_) fun hg => Sm.out ?_) | (refine Nu.mk ?_; first | (fail_if_success have := nb1); intro nb1 | (fail_if_success have := nb2); intro nb2 | (fail_if_success have := nb3); intro nb3 | (fail_if_success have := nb4); intro nb4 | (fail_if_success have := nb5); intro nb5 | (fail_if_success have := nb6); intro nb6 | intro nbz) | (refine Fr.mk ?_; intro hfr; replace FR := And.intro hfr FR; clear hfr; refine Sm.out ?_) | refine Two.mk ?_ ?_ | (apply Yxc; exact Yx) | refine Cs.mk fun hcs => Sm.out ?_ | go_step | omega | (simp only [maxLen_eq]; omega) | exact trivial | refine Or.inr (Rt.mk (And.intro (fun hg => Sm.out ?_) fun hg => Sm.out ?_))
  refine WP.loop (Γ := UG) (fun g => ⟨[(7, iv .i64 g.k), (0, ms g.b 0 g.acc.length g.cap), (2, nu n)], [(g.b, .zs .u8 g.acc g.cap 5)]⟩)
    (fun g => g.acc ++ byteL n g.k = T ++ byteL n kk ∧ g.k ≤ kk ∧ g.acc.length + g.k ≤ 100009 ∧ g.acc.length ≤ g.cap ∧ g.cap ≤ 9223372036854775807) (fun g => g.k) ⟨kk, T, nb2, nb3⟩
    ⟨by simp, by simp, by simp only; omega, by simp only; omega, by simp only; omega⟩ (Sub.pick (by simp [pickB, hget, hdel, FR, lT]) (by simp [look, lT])) ?_
  intro ⟨k, acc, b, cap⟩ ⟨g1, g2, g4, g5, g6⟩
  simp only at g1 g2 g4 g5 g6 ⊢
  (refine WP.nd fun hnd => ?_; simp only [ndF, fresh_cons, fresh_nil, and_true, ne_eq] at hnd; replace FR := And.intro hnd FR; clear hnd)
  cases k with
  | zero =>
    have k1 : decide (((0 : Nat) : Int) > 0) = false := by decide
    rw [byteL, List.append_nil] at g1
    first | (have FRx := FR; clear FRx) | have FR := fr0
    have FA := Sm.mk (And.intro TFWiP k1)
    repeat' first | (apply Sm.mk; refine Ysn ?_) | refine WP.seq fun K hK => ?_ | (apply Ob.mk; exact Yo) | refine And.intro (Ob.out ?_) ?_ | refine Y1WiP ?_ | refine YzWiP ?_ | (refine WP.cond rfl (fun hc => ?_) (fun hc => ?_) <;> (try simp only [ZC, reduceCtorEq, ZD] at hc) <;> (try exact absurd hc (by decide)) <;> (try (exfalso; omega))) | refine Rt.mk (And.intro (fun hg => Sm.out ?_) fun hg => Sm.out ?_) | (refine Nu.mk ?_; first | (fail_if_success have := nb1); intro nb1 | (fail_if_success have := nb2); intro nb2 | (fail_if_success have := nb3); intro nb3 | (fail_if_success have := nb4); intro nb4 | (fail_if_success have := nb5); intro nb5 | (fail_if_success have := nb6); intro nb6 | intro nbz) | (refine Fr.mk ?_; intro hfr; replace FR := And.intro hfr FR; clear hfr; refine Sm.out ?_) | refine Two.mk ?_ ?_ | (apply Yxc; exact Yx) | refine Cs.mk fun hcs => Sm.out ?_ | go_step | omega | (simp only [maxLen_eq]; omega) | exact trivial | refine Or.inr (Rt.mk (And.intro (fun hg => Sm.out ?_) fun hg => Sm.out ?_))
    (refine OutQ.row (by simp only [resv, ZK, look, loadv, loadn, loadnm, load1, load1m, hget, ↓reduceIte, Nat.reduceEqDiff, Nat.reduceAdd, Nat.reduceMul, Nat.reduceLeDiff, Nat.reduceLT, reduceCtorEq, TFWiP, FR]) (by simp only [resv, resA, ZK, look, loadv, loadn, loadnm, load1, load1m, hget, ↓reduceIte, Nat.reduceEqDiff, Nat.reduceAdd, Nat.reduceMul, Nat.reduceLeDiff, Nat.reduceLT, reduceCtorEq, TFWiP, FR]; first | done | rfl) (by simp only [hget, ↓reduceIte, if_true, if_false, FR]; first | done | rfl) ?_ ?_ ?_ ?_ <;> first | omega | (simp only [maxLen_eq]; omega) | skip)
    all_goals first | omega | (rw [hp, g1]; done) | (simp [hp, ← g1]; done)
  | succ k' =>
    have k1 : decide (((k' + 1 : Nat) : Int) > 0) = true := decide_eq_true (by omega)
    have e1 : IntKind.i64.wrap (((k' + 1 : Nat) : Int) - 1) = (k' : Int) := by rw [wrap_i64 (by omega) (by omega)]; try omega
    have e2 : IntKind.i64.wrap (8 * (k' : Int)) = ((8 * k' : Nat) : Int) := by rw [wrap_i64 (by omega) (by omega)]; try omega
    have e3 : 8 * k' ≤ 64 := by omega
    have e4 : (n : Int).fdiv (2 ^ (8 * k')) = ((n / 256 ^ k' : Nat) : Int) := by
      rw [Int.fdiv_eq_ediv_of_nonneg _ (by exact Int.le_of_lt (Int.pow_pos (by omega))), show (256 : Nat) = 2 ^ 8 from rfl, ← Nat.pow_mul]
      simp
    have e5 : IntKind.u8.wrap ((n / 256 ^ k' : Nat) : Int) = ((n / 256 ^ k' % 256 : Nat) : Int) := by rw [wrap_u8_mod]; omega
    obtain ⟨acc', ha⟩ : ∃ acc', acc' = acc ++ [((n / 256 ^ k' % 256 : Nat) : Int)] := ⟨_, rfl⟩
    have e6 : acc ++ [((n / 256 ^ k' % 256 : Nat) : Int)] = acc' := ha.symm
    have e7 : acc'.length = acc.length + 1 := by rw [ha]; simp
    first | (have FRx := FR; clear FRx) | have FR := fr0
    have FA := Sm.mk (And.intro TFWiP (And.intro k1 (And.intro e1 (And.intro e2 (And.intro e3 (And.intro e4 (And.intro e5 e6)))))))
    repeat' first | (apply Sm.mk; refine Ysn ?_) | refine WP.seq fun K hK => ?_ | (apply Ob.mk; exact Yo) | refine And.intro (Ob.out ?_) ?_ | refine Y1WiP ?_ | refine YzWiP ?_ | (refine WP.cond rfl (fun hc => ?_) (fun hc => ?_) <;> (try simp only [ZC, reduceCtorEq, ZD] at hc) <;> (try exact absurd hc (by decide)) <;> (try (exfalso; omega))) | refine Rt.mk (And.intro (fun hg => Sm.out ?_) fun hg => Sm.out ?_) | (refine Nu.mk ?_; first | (fail_if_success have := nb1); intro nb1 | (fail_if_success have := nb2); intro nb2 | (fail_if_success have := nb3); intro nb3 | (fail_if_success have := nb4); intro nb4 | (fail_if_success have := nb5); intro nb5 | (fail_if_success have := nb6); intro nb6 | intro nbz) | (refine Fr.mk ?_; intro hfr; replace FR := And.intro hfr FR; clear hfr; refine Sm.out ?_) | refine Two.mk ?_ ?_ | (apply Yxc; exact Yx) | refine Cs.mk fun hcs => Sm.out ?_ | go_step | omega | (simp only [maxLen_eq]; omega) | exact trivial | refine Or.inr (Rt.mk (And.intro (fun hg => Sm.out ?_) fun hg => Sm.out ?_))
    refine ⟨⟨k', acc', nb5, nb6⟩, ⟨?_, by simp only; omega, by simp only; omega, by simp only; omega, by simp only; omega⟩, by simp only; omega, (Sub.pick (by simp [pickB, hget, hdel, FR, e7]) (by simp [look, e7]))⟩
    simp only
    rw [← g1, ha, byteL, List.append_assoc]; rfl
theorem num_ct (b0 cap0 : Nat) (zs : List Int) (n : Nat) (hz : zs.length ≤ 100000) (hc1 : zs.length ≤ cap0) (hc2 : cap0 ≤ 9223372036854775807) (hn : n < 18446744073709551616) :
    ACt Tryd.prog 19 [ms b0 0 zs.length cap0, nu n] [(b0, .zs .u8 zs cap0 5)] (Row .u8 5 (zs ++ putL 0 n)) := by
  refine ACt.intro Tryd.func19 rfl (by kernel_rfl) (by simp [Tryd.ntmps19]) (fun cx => ?_)
  simp only [argE, Tryd.ntmps19, Tryd.results19]
  have c1 := put_ct b0 cap0 zs 0 n hz hc1 hc2 hn
  obtain ⟨T, hT⟩ : ∃ T, T = zs ++ putL 0 n := ⟨_, rfl⟩
  rw [← hT] at c1 ⊢
  first | (have FRx := FR; clear FRx) | have FR := fr0
  have FA := Sm.mk (TFWiP)
  repeat' first | (apply Sm.mk; refine Ysn ?_) | refine WP.seq fun K hK => ?_ | (apply Ob.mk; exact Yo) | refine And.intro (Ob.out ?_) ?_ | refine Y1WiP ?_ | refine Yvn (c := c1) (r := ?_) | refine Yc (c := c1) (r := ?_) | refine YzWiP ?_ | (refine WP.cond rfl (fun hc => ?_) (fun hc => ?_) <;> (try simp only [ZC, reduceCtorEq, ZD] at hc) <;> (try exact absurd hc (by decide)) <;> (try (exfalso; omega))) | refine Rt.mk (And.intro (fun hg => Sm.out ?_) fun hg => Sm.out ?_) | (refine Nu.mk ?_; first | (fail_if_success have := nb1); intro nb1 | (fail_if_success have := nb2); intro nb2 | (fail_if_success have := nb3); intro nb3 | (fail_if_success have := nb4); intro nb4 | (fail_if_success have := nb5); intro nb5 | (fail_if_success have := nb6); intro nb6 | intro nbz) | (refine Fr.mk ?_; intro hfr; replace FR := And.intro hfr FR; clear hfr; refine Sm.out ?_) | refine Two.mk ?_ ?_ | (apply Yxc; exact Yx) | refine Cs.mk fun hcs => Sm.out ?_ | go_step | omega | (simp only [maxLen_eq]; omega) | exact trivial | refine Or.inr (Rt.mk (And.intro (fun hg => Sm.out ?_) fun hg => Sm.out ?_))
  (refine OutQ.row (by simp only [resv, ZK, look, loadv, loadn, loadnm, load1, load1m, hget, ↓reduceIte, Nat.reduceEqDiff, Nat.reduceAdd, Nat.reduceMul, Nat.reduceLeDiff, Nat.reduceLT, reduceCtorEq, TFWiP, FR]) (by simp only [resv, resA, ZK, look, loadv, loadn, loadnm, load1, load1m, hget, ↓reduceIte, Nat.reduceEqDiff, Nat.reduceAdd, Nat.reduceMul, Nat.reduceLeDiff, Nat.reduceLT, reduceCtorEq, TFWiP, FR]; first | done | rfl) (by simp only [hget, ↓reduceIte, if_true, if_false, FR]; first | done | rfl) ?_ ?_ ?_ ?_ <;> first | omega | (simp only [maxLen_eq]; omega) | skip)
  all_goals rfl
def intL (i : Int) : List Int := if i < 0 then putL 16 (-i).toNat else putL 0 i.toNat
theorem int_ct (b0 cap0 : Nat) (zs : List Int) (i : Int) (hz : zs.length ≤ 100000) (hc1 : zs.length ≤ cap0) (hc2 : cap0 ≤ 9223372036854775807) (h1 : -9223372036854775808 ≤ i) (h2 : i ≤ 9223372036854775807) :
    ACt Tryd.prog 21 [ms b0 0 zs.length cap0, iv .i64 i] [(b0, .zs .u8 zs cap0 5)] (Row .u8 5 (zs ++ intL i)) := by
  refine ACt.intro Tryd.func21 rfl (by kernel_rfl) (by simp [Tryd.ntmps21]) (fun cx => ?_)
  simp only [argE, Tryd.ntmps21, Tryd.results21]
  unfold intL
  by_cases h : i < 0
  · obtain ⟨m, hm⟩ := Int.eq_ofNat_of_zero_le (show 0 ≤ -i by omega)
    have k : decide (i < 0) = true := decide_eq_true h
    have e : IntKind.u64.wrap (0 - IntKind.u64.wrap i) = (m : Int) := by rw [wrap_u64_mod, wrap_u64_mod]; omega
    have c1 := put_ct b0 cap0 zs 16 m hz hc1 hc2 (by omega)
    rw [if_pos h, hm, Int.toNat_natCast]
    obtain ⟨T, hT⟩ : ∃ T, T = zs ++ putL 16 m := ⟨_, rfl⟩
    rw [← hT] at c1 ⊢
    first | (have FRx := FR; clear FRx) | have FR := fr0
    have FA := Sm.mk (And.intro TFWiP (And.intro k e))
    repeat' first | (apply Sm.mk; refine Ysn ?_) | refine WP.seq fun K hK => ?_ | (apply Ob.mk; exact Yo) | refine And.intro (Ob.out ?_) ?_ | refine Y1WiP ?_ | refine Yvn (c := c1) (r := ?_) | refine Yc (c := c1) (r := ?_) | refine YzWiP ?_ | (refine WP.cond rfl (fun hc => ?_) (fun hc => ?_) <;> (try simp only [ZC, reduceCtorEq, ZD] at hc) <;> (try exact absurd hc (by decide)) <;> (try (exfalso; omega))) | refine Rt.mk (And.intro (fun hg => Sm.out ?_) fun hg => Sm.out ?_) | (refine Nu.mk ?_; first | (fail_if_success have := nb1); intro nb1 | (fail_if_success have := nb2); intro nb2 | (fail_if_success have := nb3); intro nb3 | (fail_if_success have := nb4); intro nb4 | (fail_if_success have := nb5); intro nb5 | (fail_if_success have := nb6); intro nb6 | intro nbz) | (refine Fr.mk ?_; intro hfr; replace FR := And.intro hfr FR; clear hfr; refine Sm.out ?_) | refine Two.mk ?_ ?_ | (apply Yxc; exact Yx) | refine Cs.mk fun hcs => Sm.out ?_ | go_step | omega | (simp only [maxLen_eq]; omega) | exact trivial | refine Or.inr (Rt.mk (And.intro (fun hg => Sm.out ?_) fun hg => Sm.out ?_))
    (refine OutQ.row (by simp only [resv, ZK, look, loadv, loadn, loadnm, load1, load1m, hget, ↓reduceIte, Nat.reduceEqDiff, Nat.reduceAdd, Nat.reduceMul, Nat.reduceLeDiff, Nat.reduceLT, reduceCtorEq, TFWiP, FR]) (by simp only [resv, resA, ZK, look, loadv, loadn, loadnm, load1, load1m, hget, ↓reduceIte, Nat.reduceEqDiff, Nat.reduceAdd, Nat.reduceMul, Nat.reduceLeDiff, Nat.reduceLT, reduceCtorEq, TFWiP, FR]; first | done | rfl) (by simp only [hget, ↓reduceIte, if_true, if_false, FR]; first | done | rfl) ?_ ?_ ?_ ?_ <;> first | omega | (simp only [maxLen_eq]; omega) | skip)
    all_goals rfl
  · obtain ⟨m, hm⟩ := Int.eq_ofNat_of_zero_le (show 0 ≤ i by omega)
    subst hm
    have k : decide ((m : Int) < 0) = false := decide_eq_false h
    have e : IntKind.u64.wrap (m : Int) = (m : Int) := wrap_u64_nat (by omega)
    have c1 := put_ct b0 cap0 zs 0 m hz hc1 hc2 (by omega)
    rw [if_neg h, Int.toNat_natCast]
    obtain ⟨T, hT⟩ : ∃ T, T = zs ++ putL 0 m := ⟨_, rfl⟩
    rw [← hT] at c1 ⊢
    first | (have FRx := FR; clear FRx) | have FR := fr0
    have FA := Sm.mk (And.intro TFWiP (And.intro k e))
    repeat' first | (apply Sm.mk; refine Ysn ?_) | refine WP.seq fun K hK => ?_ | (apply Ob.mk; exact Yo) | refine And.intro (Ob.out ?_) ?_ | refine Y1WiP ?_ | refine Yvn (c := c1) (r := ?_) | refine Yc (c := c1) (r := ?_) | refine YzWiP ?_ | (refine WP.cond rfl (fun hc => ?_) (fun hc => ?_) <;> (try simp only [ZC, reduceCtorEq, ZD] at hc) <;> (try exact absurd hc (by decide)) <;> (try (exfalso; omega))) | refine Rt.mk (And.intro (fun hg => Sm.out ?_) fun hg => Sm.out ?_) | (refine Nu.mk ?_; first | (fail_if_success have := nb1); intro nb1 | (fail_if_success have := nb2); intro nb2 | (fail_if_success have := nb3); intro nb3 | (fail_if_success have := nb4); intro nb4 | (fail_if_success have := nb5); intro nb5 | (fail_if_success have := nb6); intro nb6 | intro nbz) | (refine Fr.mk ?_; intro hfr; replace FR := And.intro hfr FR; clear hfr; refine Sm.out ?_) | refine Two.mk ?_ ?_ | (apply Yxc; exact Yx) | refine Cs.mk fun hcs => Sm.out ?_ | go_step | omega | (simp only [maxLen_eq]; omega) | exact trivial | refine Or.inr (Rt.mk (And.intro (fun hg => Sm.out ?_) fun hg => Sm.out ?_))
    (refine OutQ.row (by simp only [resv, ZK, look, loadv, loadn, loadnm, load1, load1m, hget, ↓reduceIte, Nat.reduceEqDiff, Nat.reduceAdd, Nat.reduceMul, Nat.reduceLeDiff, Nat.reduceLT, reduceCtorEq, TFWiP, FR]) (by simp only [resv, resA, ZK, look, loadv, loadn, loadnm, load1, load1m, hget, ↓reduceIte, Nat.reduceEqDiff, Nat.reduceAdd, Nat.reduceMul, Nat.reduceLeDiff, Nat.reduceLT, reduceCtorEq, TFWiP, FR]; first | done | rfl) (by simp only [hget, ↓reduceIte, if_true, if_false, FR]; first | done | rfl) ?_ ?_ ?_ ?_ <;> first | omega | (simp only [maxLen_eq]; omega) | skip)
    all_goals rfl
def strL (s : ByteArray) : List Int := s.data.toList.map fun b => (b.toNat : Int)
theorem strL_len (s : ByteArray) : (strL s).length = s.size := by simp [strL]
theorem text_ct (b0 cap0 : Nat) (zs : List Int) (s : ByteArray) (hz : zs.length ≤ 10000) (hc1 : zs.length ≤ cap0) (hc2 : cap0 ≤ 9223372036854775807) (hs : s.size ≤ 10000) :
    ACt Tryd.prog 20 [ms b0 0 zs.length cap0, .lit (.string s)] [(b0, .zs .u8 zs cap0 5)] (Row .u8 5 (zs ++ putL 0 s.size ++ strL s)) := by
  refine ACt.intro Tryd.func20 rfl (by kernel_rfl) (by simp [Tryd.ntmps20]) (fun cx => ?_)
  simp only [argE, Tryd.ntmps20, Tryd.results20]
  have e : IntKind.u64.wrap (s.size : Int) = (s.size : Int) := wrap_u64_nat (by omega)
  have c1 := num_ct b0 cap0 zs s.size (by omega) hc1 hc2 (by omega)
  have hl := putL_len 0 s.size (by omega)
  have hl2 : (zs ++ putL 0 s.size).length ≤ 10009 := by simp; omega
  obtain ⟨T, hT⟩ : ∃ T, T = zs ++ putL 0 s.size := ⟨_, rfl⟩
  rw [← hT] at c1 hl2 ⊢
  have hs2 : s.data.toList.map (fun b => (b.toNat : Int)) = strL s := rfl
  have hs3 := strL_len s
  obtain ⟨V, hV⟩ : ∃ V, V = T ++ strL s := ⟨_, rfl⟩
  have lV : V.length = T.length + s.size := by rw [hV]; simp [strL_len]
  have hV' : T ++ strL s = V := hV.symm
  rw [hV']
  first | (have FRx := FR; clear FRx) | have FR := fr0
  have FA := Sm.mk (And.intro TFWiP (And.intro e (And.intro hs2 (And.intro hs3 hV'))))
  repeat' first | (apply Sm.mk; refine Ysn ?_) | refine WP.seq fun K hK => ?_ | (apply Ob.mk; exact Yo) | refine And.intro (Ob.out ?_) ?_ | refine Y1WiP ?_ | refine Yvn (c := c1) (r := ?_) | refine Yc (c := c1) (r := ?_) | refine YzWiP ?_ | (refine WP.cond rfl (fun hc => ?_) (fun hc => ?_) <;> (try simp only [ZC, reduceCtorEq, ZD] at hc) <;> (try exact absurd hc (by decide)) <;> (try (exfalso; omega))) | refine Rt.mk (And.intro (fun hg => Sm.out ?_) fun hg => Sm.out ?_) | (refine Nu.mk ?_; first | (fail_if_success have := nb1); intro nb1 | (fail_if_success have := nb2); intro nb2 | (fail_if_success have := nb3); intro nb3 | (fail_if_success have := nb4); intro nb4 | (fail_if_success have := nb5); intro nb5 | (fail_if_success have := nb6); intro nb6 | intro nbz) | (refine Fr.mk ?_; intro hfr; replace FR := And.intro hfr FR; clear hfr; refine Sm.out ?_) | refine Two.mk ?_ ?_ | (apply Yxc; exact Yx) | refine Cs.mk fun hcs => Sm.out ?_ | go_step | omega | (simp only [maxLen_eq]; omega) | exact trivial | refine Or.inr (Rt.mk (And.intro (fun hg => Sm.out ?_) fun hg => Sm.out ?_))
  (refine OutQ.row (by simp only [resv, ZK, look, loadv, loadn, loadnm, load1, load1m, hget, ↓reduceIte, Nat.reduceEqDiff, Nat.reduceAdd, Nat.reduceMul, Nat.reduceLeDiff, Nat.reduceLT, reduceCtorEq, TFWiP, FR]) (by simp only [resv, resA, ZK, look, loadv, loadn, loadnm, load1, load1m, hget, ↓reduceIte, Nat.reduceEqDiff, Nat.reduceAdd, Nat.reduceMul, Nat.reduceLeDiff, Nat.reduceLT, reduceCtorEq, TFWiP, FR]; first | done | rfl) (by simp only [hget, ↓reduceIte, if_true, if_false, FR]; first | done | rfl) ?_ ?_ ?_ ?_ <;> first | omega | (simp only [maxLen_eq]; omega) | skip)
  all_goals first | omega | rfl | (rw [lV]; done)
theorem flag_ct (b0 cap0 : Nat) (zs : List Int) (f : Bool) (hz : zs.length ≤ 100000) (hc1 : zs.length ≤ cap0) (hc2 : cap0 ≤ 9223372036854775807) :
    ACt Tryd.prog 49 [ms b0 0 zs.length cap0, bv f] [(b0, .zs .u8 zs cap0 5)] (Row .u8 5 (zs ++ [if f then 1 else 0])) := by
  refine ACt.intro Tryd.func49 rfl (by kernel_rfl) (by simp [Tryd.ntmps49]) (fun cx => ?_)
  simp only [argE, Tryd.ntmps49, Tryd.results49]
  cases f
  · obtain ⟨T, hT⟩ : ∃ T, T = zs ++ [0] := ⟨_, rfl⟩
    have hT' : zs ++ [0] = T := hT.symm
    have lT : T.length = zs.length + 1 := by rw [hT]; simp
    rw [show (if false = true then (1 : Int) else 0) = 0 from rfl, hT']
    first | (have FRx := FR; clear FRx) | have FR := fr0
    have FA := Sm.mk (And.intro TFWiP hT')
    repeat' first | (apply Sm.mk; refine Ysn ?_) | refine WP.seq fun K hK => ?_ | (apply Ob.mk; exact Yo) | refine And.intro (Ob.out ?_) ?_ | refine Y1WiP ?_ | refine YzWiP ?_ | (refine WP.cond rfl (fun hc => ?_) (fun hc => ?_) <;> (try simp only [ZC, reduceCtorEq, ZD] at hc) <;> (try exact absurd hc (by decide)) <;> (try (exfalso; omega))) | refine Rt.mk (And.intro (fun hg => Sm.out ?_) fun hg => Sm.out ?_) | (refine Nu.mk ?_; first | (fail_if_success have := nb1); intro nb1 | (fail_if_success have := nb2); intro nb2 | (fail_if_success have := nb3); intro nb3 | (fail_if_success have := nb4); intro nb4 | (fail_if_success have := nb5); intro nb5 | (fail_if_success have := nb6); intro nb6 | intro nbz) | (refine Fr.mk ?_; intro hfr; replace FR := And.intro hfr FR; clear hfr; refine Sm.out ?_) | refine Two.mk ?_ ?_ | (apply Yxc; exact Yx) | refine Cs.mk fun hcs => Sm.out ?_ | go_step | omega | (simp only [maxLen_eq]; omega) | exact trivial | refine Or.inr (Rt.mk (And.intro (fun hg => Sm.out ?_) fun hg => Sm.out ?_))
    (refine OutQ.row (by simp only [resv, ZK, look, loadv, loadn, loadnm, load1, load1m, hget, ↓reduceIte, Nat.reduceEqDiff, Nat.reduceAdd, Nat.reduceMul, Nat.reduceLeDiff, Nat.reduceLT, reduceCtorEq, TFWiP, FR]) (by simp only [resv, resA, ZK, look, loadv, loadn, loadnm, load1, load1m, hget, ↓reduceIte, Nat.reduceEqDiff, Nat.reduceAdd, Nat.reduceMul, Nat.reduceLeDiff, Nat.reduceLT, reduceCtorEq, TFWiP, FR]; first | done | rfl) (by simp only [hget, ↓reduceIte, if_true, if_false, FR]; first | done | rfl) ?_ ?_ ?_ ?_ <;> first | omega | (simp only [maxLen_eq]; omega) | skip)
    all_goals first | omega | rfl | (rw [lT]; done)
  · obtain ⟨T, hT⟩ : ∃ T, T = zs ++ [1] := ⟨_, rfl⟩
    have hT' : zs ++ [1] = T := hT.symm
    have lT : T.length = zs.length + 1 := by rw [hT]; simp
    rw [show (if true = true then (1 : Int) else 0) = 1 from rfl, hT']
    first | (have FRx := FR; clear FRx) | have FR := fr0
    have FA := Sm.mk (And.intro TFWiP hT')
    repeat' first | (apply Sm.mk; refine Ysn ?_) | refine WP.seq fun K hK => ?_ | (apply Ob.mk; exact Yo) | refine And.intro (Ob.out ?_) ?_ | refine Y1WiP ?_ | refine YzWiP ?_ | (refine WP.cond rfl (fun hc => ?_) (fun hc => ?_) <;> (try simp only [ZC, reduceCtorEq, ZD] at hc) <;> (try exact absurd hc (by decide)) <;> (try (exfalso; omega))) | refine Rt.mk (And.intro (fun hg => Sm.out ?_) fun hg => Sm.out ?_) | (refine Nu.mk ?_; first | (fail_if_success have := nb1); intro nb1 | (fail_if_success have := nb2); intro nb2 | (fail_if_success have := nb3); intro nb3 | (fail_if_success have := nb4); intro nb4 | (fail_if_success have := nb5); intro nb5 | (fail_if_success have := nb6); intro nb6 | intro nbz) | (refine Fr.mk ?_; intro hfr; replace FR := And.intro hfr FR; clear hfr; refine Sm.out ?_) | refine Two.mk ?_ ?_ | (apply Yxc; exact Yx) | refine Cs.mk fun hcs => Sm.out ?_ | go_step | omega | (simp only [maxLen_eq]; omega) | exact trivial | refine Or.inr (Rt.mk (And.intro (fun hg => Sm.out ?_) fun hg => Sm.out ?_))
    (refine OutQ.row (by simp only [resv, ZK, look, loadv, loadn, loadnm, load1, load1m, hget, ↓reduceIte, Nat.reduceEqDiff, Nat.reduceAdd, Nat.reduceMul, Nat.reduceLeDiff, Nat.reduceLT, reduceCtorEq, TFWiP, FR]) (by simp only [resv, resA, ZK, look, loadv, loadn, loadnm, load1, load1m, hget, ↓reduceIte, Nat.reduceEqDiff, Nat.reduceAdd, Nat.reduceMul, Nat.reduceLeDiff, Nat.reduceLT, reduceCtorEq, TFWiP, FR]; first | done | rfl) (by simp only [hget, ↓reduceIte, if_true, if_false, FR]; first | done | rfl) ?_ ?_ ?_ ?_ <;> first | omega | (simp only [maxLen_eq]; omega) | skip)
    all_goals first | omega | rfl | (rw [lT]; done)
theorem size_le {n j : Nat} : (lenN n + 7) / 8 ≤ j ↔ n < 256 ^ j := by
  rw [show (256 : Nat) = 2 ^ 8 from rfl, ← Nat.pow_mul, ← lenN_le]; omega
theorem or0 : ∀ k : Nat, k < 9 → ibit .or .u8 0 (k : Int) = (k : Int) := by decide +kernel
theorem or16 : ∀ k : Nat, k < 9 → ibit .or .u8 16 (k : Int) = 16 + (k : Int) := by decide +kernel
theorem byteL_hd {n k : Nat} (h : n < 256 ^ (k + 1)) (h2 : 256 ^ k ≤ n) : n / 256 ^ k % 256 ≠ 0 := by
  have h3 : n / 256 ^ k < 256 := by rw [Nat.div_lt_iff_lt_mul (Nat.pow_pos (by omega))]; rw [Nat.pow_succ, Nat.mul_comm] at h; exact h
  have h4 : 1 ≤ n / 256 ^ k := Nat.div_pos h2 (Nat.pow_pos (by omega))
  omega
theorem byteL_at (n : Nat) : ∀ (k j : Nat), j < k → (byteL n k).getD j 0 = ((n / 256 ^ (k - 1 - j) % 256 : Nat) : Int)
  | 0, j, h => by omega
  | k + 1, 0, _ => by simp [byteL]
  | k + 1, j + 1, h => by
    rw [byteL, List.getD_cons_succ, byteL_at n k j (by omega), show k + 1 - 1 - (j + 1) = k - 1 - j by omega]
theorem and16 : ∀ k : Nat, k < 9 → ibit .and .u8 (16 + (k : Int)) 16 = 16 ∧ ibit .andNot .u8 (16 + (k : Int)) 16 = (k : Int) ∧ ibit .and .u8 (k : Int) 16 = 0 ∧ ibit .andNot .u8 (k : Int) 16 = (k : Int) ∧ ibit .and .u8 (k : Int) 0 = 0 ∧ ibit .andNot .u8 (k : Int) 0 = (k : Int) := by decide +kernel
theorem putL0 (n : Nat) (hn : n < 18446744073709551616) : ∃ k, k = (lenN n + 7) / 8 ∧ k < 9 ∧ putL 0 n = (k : Int) :: byteL n k ∧ putL 16 n = (16 + (k : Int)) :: byteL n k := by
  have hl : lenN n ≤ 64 := lenN_le.2 hn
  refine ⟨_, rfl, by omega, ?_, ?_⟩
  · unfold putL; rw [or0 _ (by omega)]
  · unfold putL; rw [or16 _ (by omega)]
theorem bstr_strL (s : ByteArray) : bstr (strL s) = s := by
  unfold bstr strL
  obtain ⟨a⟩ := s
  congr 1
  rw [List.map_map]
  have : ((fun n : Int => UInt8.ofNat n.toNat) ∘ fun b : UInt8 => (b.toNat : Int)) = id := by
    funext x; simp
  rw [this]; simp
/-! ## Bytes and their number -/
def By (l : List Int) : Prop := ∀ x ∈ l, 0 ≤ x ∧ x ≤ 255
def valL : List Int → Nat
  | [] => 0
  | c :: t => c.toNat * 256 ^ t.length + valL t
theorem By.tail {c : Int} {t : List Int} (h : By (c :: t)) : By t := fun x hx => h x (List.mem_cons_of_mem _ hx)
theorem By.take {l : List Int} (h : By l) (k : Nat) : By (l.take k) := fun x hx => h x (List.mem_of_mem_take hx)
theorem By.drop {l : List Int} (h : By l) (k : Nat) : By (l.drop k) := fun x hx => h x (List.mem_of_mem_drop hx)
/-! ## A number behind its head -/
def gF (sgn : Int) : List Int → Option (Int × Nat × List Int)
  | [] => none
  | h :: t =>
    if 8 < (ibit .andNot .u8 h sgn).toNat ∨ t.length < (ibit .andNot .u8 h sgn).toNat ∨ (0 < (ibit .andNot .u8 h sgn).toNat ∧ t.getD 0 0 = 0) then none
    else some (ibit .and .u8 h sgn, valL (t.take (ibit .andNot .u8 h sgn).toNat), t.drop (ibit .andNot .u8 h sgn).toNat)
def nF (zs : List Int) : Option (Nat × List Int) := (gF 0 zs).map fun p => p.2
def iF (zs : List Int) : Option (Int × List Int) :=
  match gF 16 zs with
  | none => none
  | some (s, n, r) => if (s ≠ 0 ∧ (n = 0 ∨ 9223372036854775808 < n)) ∨ (s = 0 ∧ 9223372036854775807 < n) then none else some (if s ≠ 0 then -(n : Int) else (n : Int), r)
def cF (m : Int) (zs : List Int) : Option (Nat × List Int) :=
  match nF zs with
  | none => none
  | some (n, r) => if m < 0 ∨ m < (n : Int) then none else some (n, r)
def tF (m : Int) (zs : List Int) : Option (List Int × List Int) :=
  match cF m zs with
  | none => none
  | some (n, r) => if r.length < n then none else some (r.take n, r.drop n)
def fF : List Int → Option (Bool × List Int)
  | [] => none
  | h :: t => if 1 < h then none else some (h == 1, t)
theorem valL_byteL (n : Nat) : ∀ k, valL (byteL n k) = n % 256 ^ k
  | 0 => by simp [byteL, valL, Nat.mod_one]
  | k + 1 => by
    rw [byteL, valL, byteL_len, valL_byteL n k, Int.toNat_natCast, Nat.mod_pow_succ, Nat.add_comm, Nat.mul_comm]
theorem by_byteL (n : Nat) : ∀ k, By (byteL n k)
  | 0 => fun x hx => by cases hx
  | k + 1 => fun x hx => by
    rcases List.mem_cons.1 hx with rfl | hx
    · omega
    · exact by_byteL n k x hx
theorem By.app {a b : List Int} (ha : By a) (hb : By b) : By (a ++ b) := fun x hx => by
  rcases List.mem_append.1 hx with h | h
  · exact ha x h
  · exact hb x h
theorem by_putL (n : Nat) (hn : n < 18446744073709551616) : By (putL 0 n) := by
  obtain ⟨k, _, hk, h, _⟩ := putL0 n hn
  rw [h]
  intro x hx
  rcases List.mem_cons.1 hx with rfl | hx
  · omega
  · exact by_byteL n k x hx
theorem nF_put (n : Nat) (rest : List Int) (hn : n < 18446744073709551616) : nF (putL 0 n ++ rest) = some (n, rest) := by
  obtain ⟨k, hk, hk9, h, _⟩ := putL0 n hn
  have a := and16 k hk9
  have hlt : n < 256 ^ k := size_le.1 (Nat.le_of_eq hk.symm)
  have hlb := byteL_len n k
  rw [h]
  unfold nF
  rw [List.cons_append]
  simp only [gF, a.2.2.2.2.2, a.2.2.2.2.1, Int.toNat_natCast]
  have hz : ¬ (0 < k ∧ (byteL n k ++ rest).getD 0 0 = 0) := by
    rintro ⟨h0, h1⟩
    have e : (byteL n k ++ rest).getD 0 0 = ((n / 256 ^ (k - 1 - 0) % 256 : Nat) : Int) := by
      rw [← byteL_at n k 0 h0]
      simp only [List.getD_eq_getElem?_getD]
      rw [List.getElem?_append_left (by omega)]
    have hge : 256 ^ (k - 1) ≤ n := by
      apply Classical.byContradiction; intro hc
      have := size_le.2 (show n < 256 ^ (k - 1) by omega)
      omega
    have hne := byteL_hd (k := k - 1) (by rw [show k - 1 + 1 = k by omega]; exact hlt) hge
    rw [e, Nat.sub_zero] at h1
    exact hne (by exact_mod_cast h1)
  rw [if_neg]
  · simp only [Option.map_some, List.take_left' hlb, List.drop_left' hlb, valL_byteL, Nat.mod_eq_of_lt hlt]
  · rintro (h1 | h1 | h1)
    · omega
    · rw [List.length_append] at h1; omega
    · exact hz h1
end Go.Proofs.YtpidkkgjgichdaaDoor.Wi
namespace Go.Proofs.YtpidkkgjgichdaaDoor
open Go
set_option linter.unusedVariables false
set_option linter.unusedSimpArgs false
set_option linter.defProp false
def TFCoA :=
  And.intro (And.intro (And.intro (And.intro tyc0 (And.intro tyc3 zmb3)) (And.intro (And.intro tyc4 zmb4) (And.intro tyc9 zmb9))) (And.intro (And.intro tyc22 (And.intro zmb22 tyc26)) (And.intro (And.intro foff26_0 fpart26_0) (And.intro foff26_1 fpart26_1)))) (And.intro (And.intro (And.intro foff26_2 (And.intro fpart26_2 foff26_3)) (And.intro (And.intro fpart26_3 foff26_4) (And.intro fpart26_4 fe26))) (And.intro (And.intro (And.intro zmb26 bldT26) (And.intro Tryd.underlying0 Tryd.underlying3)) (And.intro (And.intro Tryd.underlying4 Tryd.underlying9) (And.intro Tryd.underlying22 Tryd.underlying26))))
theorem Y1CoA {G R : Prop} (r : R) (h : R → G := by intro r; first | (apply WP.region; exact rvc_sound _ _ (Sm.out r)) | exact WP.drawK rfl mixed (by decide +kernel) (Sm.out r) | (apply WP.block; exact r) | (apply WP.skip; exact Yq r) | (apply WP.exit; exact Yq r) | (apply WP.ret; exact Sm.out r) | exact WP.cond rfl (fun _ => r) (fun hg => absurd hg (by decide)) | exact WP.cond rfl (fun hg => absurd hg (by decide)) (fun _ => r) | exact Rt.mk (And.intro (fun _ => Sm.out r) fun hg => absurd hg (by decide)) | exact Rt.mk (And.intro (fun hg => absurd hg (by decide)) fun _ => Sm.out r)) : G := h r
theorem YzCoA {G R : Prop} (r : R) (h : R → G := by intro r; first | (apply ExG.no; exact Sm.out r) | (apply Or.inl; apply ExG.no; exact Sm.out r) | exact Or.inl (And.intro (fun hg => absurd hg (by decide)) (ExG.no (Sm.out r)))) : G := h r
structure Ky where
  g : ByteArray
  r : ByteArray
  p : Bool
  e : Int
  s : Bool
abbrev kv (k : Ky) : AV := .agg [.lit (.string k.g), .lit (.string k.r), bv k.p, iv .u64 k.e, bv k.s]
theorem ba_iff (s t : ByteArray) : (s == t) = true ↔ s = t := by
  obtain ⟨a⟩ := s
  obtain ⟨b⟩ := t
  show (a == b) = true ↔ _
  simp
theorem s_bstr (s : ByteArray) : s = bstr (ub s.data.toList) ∧ By (ub s.data.toList) := by
  constructor
  · apply ByteArray.ext
    apply Array.ext'
    simp only [bstr, ub, List.map_map]
    have e2 : s.data.toList.map ((fun n : Int => UInt8.ofNat n.toNat) ∘ fun b : UInt8 => (b.toNat : Int)) = s.data.toList.map id := List.map_congr_left fun b _ => by simp
    rw [e2, List.map_id]
  · intro i hi
    rw [ub_getD]
    have := ((s.data.toList).getD i 0).toNat_lt
    omega
noncomputable def nmS (s : ByteArray) : Bool := nmB (rn (ub s.data.toList))
theorem rname_s (s : ByteArray) (h : s.size ≤ 1000) : ACt Tryd.prog 46 [.lit (.string s)] [] (Fn (bv (nmS s))) := by
  obtain ⟨e, hb⟩ := s_bstr s
  have hl : (ub s.data.toList).length ≤ 1000 := by rw [e, bstr_size] at h; exact h
  have := rname_ct _ hb hl
  unfold stz at this
  rw [← e] at this
  exact this
theorem name_s (s : ByteArray) (h : s.size ≤ 1000) : ACt Tryd.prog 50 [.lit (.string s)] [] (Fn (bv (nmS s))) := by
  obtain ⟨e, hb⟩ := s_bstr s
  have hl : (ub s.data.toList).length ≤ 1000 := by rw [e, bstr_size] at h; exact h
  have := name_ct _ hb hl
  unfold stz at this
  rw [← e] at this
  exact this
structure Kz (k : Ky) : Prop where
  g : k.g.size ≤ 1000
  r : k.r.size ≤ 1000
noncomputable def krB (k : Ky) : Bool := nmS k.g && (nmS k.r && (decide (0 < k.e) && decide (k.e ≤ 4611686018427387904)))
theorem kright_ct (k : Ky) (hz : Kz k) : ACt Tryd.prog 27 [kv k] [] (Fn (bv (krB k))) := by
  have c1 := name_s k.g hz.g
  have c2 := name_s k.r hz.r
  unfold krB
  obtain ⟨a, ha⟩ : ∃ a, a = nmS k.g := ⟨_, rfl⟩
  obtain ⟨b, hb⟩ : ∃ b, b = nmS k.r := ⟨_, rfl⟩
  rw [← ha] at c1 ⊢
  rw [← hb] at c2 ⊢
  obtain ⟨x, hx⟩ : ∃ x, x = decide (0 < k.e) := ⟨_, rfl⟩
  have hx' : decide (k.e ≥ 1) = x := by rw [hx]; exact decide_eq_decide.2 (by omega)
  rw [← hx]
  obtain ⟨y, hy⟩ : ∃ y, decide (k.e ≤ 4611686018427387904) = y := ⟨_, rfl⟩
  rw [hy]
  clear ha hb hx
  obtain ⟨kg, kr, kp, ke, ks⟩ := k
  simp only at c1 c2 hx' hy
  cases a
  · refine ACt.intro Tryd.func27 rfl (by kernel_rfl) (by simp [Tryd.ntmps27]) (fun cx => ?_)
    simp only [argE, Tryd.ntmps27, Tryd.results27]
    first | (have FRx := FR; clear FRx) | have FR := fr0S
    have FA := Sm.mk (TFCoA)
    repeat' first | (apply Sm.mk; refine Ys ?_) | refine WP.seq fun K hK => ?_ | (apply Ob.mk; exact Yo) | refine And.intro (Ob.out ?_) ?_ | refine Y1CoA ?_ | refine Yc (c := c1) (r := ?_) | refine Yc (c := c2) (r := ?_) | refine YzCoA ?_ | (refine WP.cond rfl (fun hc => ?_) (fun hc => ?_) <;> (try simp only [ZC, reduceCtorEq, ZD] at hc) <;> (try exact absurd hc (by decide)) <;> (try (exfalso; omega))) | refine Rt.mk (And.intro (fun hg => Sm.out ?_) fun hg => Sm.out ?_) | (refine Nu.mk ?_; first | (fail_if_success have := nb1); intro nb1 | (fail_if_success have := nb2); intro nb2 | (fail_if_success have := nb3); intro nb3 | (fail_if_success have := nb4); intro nb4 | intro nbz) | (apply Yfr; refine Yf FR fun hFRb FR => ?_) | refine Two.mk ?_ ?_ | (apply Yxc; exact Yx) | refine Cs.mk fun hcs => Sm.out ?_ | go_step | omega | (simp only [maxLen_eq]; omega) | exact trivial
    (refine Yg ?_; try exact trivial)
  · cases b
    · refine ACt.intro Tryd.func27 rfl (by kernel_rfl) (by simp [Tryd.ntmps27]) (fun cx => ?_)
      simp only [argE, Tryd.ntmps27, Tryd.results27]
      first | (have FRx := FR; clear FRx) | have FR := fr0S
      have FA := Sm.mk (TFCoA)
      repeat' first | (apply Sm.mk; refine Ys ?_) | refine WP.seq fun K hK => ?_ | (apply Ob.mk; exact Yo) | refine And.intro (Ob.out ?_) ?_ | refine Y1CoA ?_ | refine Yc (c := c1) (r := ?_) | refine Yc (c := c2) (r := ?_) | refine YzCoA ?_ | (refine WP.cond rfl (fun hc => ?_) (fun hc => ?_) <;> (try simp only [ZC, reduceCtorEq, ZD] at hc) <;> (try exact absurd hc (by decide)) <;> (try (exfalso; omega))) | refine Rt.mk (And.intro (fun hg => Sm.out ?_) fun hg => Sm.out ?_) | (refine Nu.mk ?_; first | (fail_if_success have := nb1); intro nb1 | (fail_if_success have := nb2); intro nb2 | (fail_if_success have := nb3); intro nb3 | (fail_if_success have := nb4); intro nb4 | intro nbz) | (apply Yfr; refine Yf FR fun hFRb FR => ?_) | refine Two.mk ?_ ?_ | (apply Yxc; exact Yx) | refine Cs.mk fun hcs => Sm.out ?_ | go_step | omega | (simp only [maxLen_eq]; omega) | exact trivial
      (refine Yg ?_; try exact trivial)
    · cases x
      · refine ACt.intro Tryd.func27 rfl (by kernel_rfl) (by simp [Tryd.ntmps27]) (fun cx => ?_)
        simp only [argE, Tryd.ntmps27, Tryd.results27]
        first | (have FRx := FR; clear FRx) | have FR := fr0S
        have FA := Sm.mk (And.intro TFCoA hx')
        repeat' first | (apply Sm.mk; refine Ys ?_) | refine WP.seq fun K hK => ?_ | (apply Ob.mk; exact Yo) | refine And.intro (Ob.out ?_) ?_ | refine Y1CoA ?_ | refine Yc (c := c1) (r := ?_) | refine Yc (c := c2) (r := ?_) | refine YzCoA ?_ | (refine WP.cond rfl (fun hc => ?_) (fun hc => ?_) <;> (try simp only [ZC, reduceCtorEq, ZD] at hc) <;> (try exact absurd hc (by decide)) <;> (try (exfalso; omega))) | refine Rt.mk (And.intro (fun hg => Sm.out ?_) fun hg => Sm.out ?_) | (refine Nu.mk ?_; first | (fail_if_success have := nb1); intro nb1 | (fail_if_success have := nb2); intro nb2 | (fail_if_success have := nb3); intro nb3 | (fail_if_success have := nb4); intro nb4 | intro nbz) | (apply Yfr; refine Yf FR fun hFRb FR => ?_) | refine Two.mk ?_ ?_ | (apply Yxc; exact Yx) | refine Cs.mk fun hcs => Sm.out ?_ | go_step | omega | (simp only [maxLen_eq]; omega) | exact trivial
        (refine Yg ?_; try exact trivial)
      · refine ACt.intro Tryd.func27 rfl (by kernel_rfl) (by simp [Tryd.ntmps27]) (fun cx => ?_)
        simp only [argE, Tryd.ntmps27, Tryd.results27]
        first | (have FRx := FR; clear FRx) | have FR := fr0S
        have FA := Sm.mk (And.intro TFCoA (And.intro hx' hy))
        repeat' first | (apply Sm.mk; refine Ys ?_) | refine WP.seq fun K hK => ?_ | (apply Ob.mk; exact Yo) | refine And.intro (Ob.out ?_) ?_ | refine Y1CoA ?_ | refine Yc (c := c1) (r := ?_) | refine Yc (c := c2) (r := ?_) | refine YzCoA ?_ | (refine WP.cond rfl (fun hc => ?_) (fun hc => ?_) <;> (try simp only [ZC, reduceCtorEq, ZD] at hc) <;> (try exact absurd hc (by decide)) <;> (try (exfalso; omega))) | refine Rt.mk (And.intro (fun hg => Sm.out ?_) fun hg => Sm.out ?_) | (refine Nu.mk ?_; first | (fail_if_success have := nb1); intro nb1 | (fail_if_success have := nb2); intro nb2 | (fail_if_success have := nb3); intro nb3 | (fail_if_success have := nb4); intro nb4 | intro nbz) | (apply Yfr; refine Yf FR fun hFRb FR => ?_) | refine Two.mk ?_ ?_ | (apply Yxc; exact Yx) | refine Cs.mk fun hcs => Sm.out ?_ | go_step | omega | (simp only [maxLen_eq]; omega) | exact trivial
        (have FA := Sm.mk (And.intro hy FA.out); refine Yg ?_; try exact trivial)
theorem rkright_ct (k : Ky) (hz : Kz k) : ACt Tryd.prog 17 [kv k] [] (Fn (bv (krB k))) := by
  have c1 := rname_s k.g hz.g
  have c2 := rname_s k.r hz.r
  unfold krB
  obtain ⟨a, ha⟩ : ∃ a, a = nmS k.g := ⟨_, rfl⟩
  obtain ⟨b, hb⟩ : ∃ b, b = nmS k.r := ⟨_, rfl⟩
  rw [← ha] at c1 ⊢
  rw [← hb] at c2 ⊢
  obtain ⟨x, hx⟩ : ∃ x, x = decide (0 < k.e) := ⟨_, rfl⟩
  have hx' : decide (k.e > 0) = x := by rw [hx]
  rw [← hx]
  obtain ⟨y, hy⟩ : ∃ y, decide (k.e ≤ 4611686018427387904) = y := ⟨_, rfl⟩
  rw [hy]
  clear ha hb hx
  obtain ⟨kg, kr, kp, ke, ks⟩ := k
  simp only at c1 c2 hx' hy
  cases a
  · refine ACt.intro Tryd.func17 rfl (by kernel_rfl) (by simp [Tryd.ntmps17]) (fun cx => ?_)
    simp only [argE, Tryd.ntmps17, Tryd.results17]
    first | (have FRx := FR; clear FRx) | have FR := fr0S
    have FA := Sm.mk (TFCoA)
    repeat' first | (apply Sm.mk; refine Ys ?_) | refine WP.seq fun K hK => ?_ | (apply Ob.mk; exact Yo) | refine And.intro (Ob.out ?_) ?_ | refine Y1CoA ?_ | refine Yc (c := c1) (r := ?_) | refine Yc (c := c2) (r := ?_) | refine YzCoA ?_ | (refine WP.cond rfl (fun hc => ?_) (fun hc => ?_) <;> (try simp only [ZC, reduceCtorEq, ZD] at hc) <;> (try exact absurd hc (by decide)) <;> (try (exfalso; omega))) | refine Rt.mk (And.intro (fun hg => Sm.out ?_) fun hg => Sm.out ?_) | (refine Nu.mk ?_; first | (fail_if_success have := nb1); intro nb1 | (fail_if_success have := nb2); intro nb2 | (fail_if_success have := nb3); intro nb3 | (fail_if_success have := nb4); intro nb4 | intro nbz) | (apply Yfr; refine Yf FR fun hFRb FR => ?_) | refine Two.mk ?_ ?_ | (apply Yxc; exact Yx) | refine Cs.mk fun hcs => Sm.out ?_ | go_step | omega | (simp only [maxLen_eq]; omega) | exact trivial
    (refine Yg ?_; try exact trivial)
  · cases b
    · refine ACt.intro Tryd.func17 rfl (by kernel_rfl) (by simp [Tryd.ntmps17]) (fun cx => ?_)
      simp only [argE, Tryd.ntmps17, Tryd.results17]
      first | (have FRx := FR; clear FRx) | have FR := fr0S
      have FA := Sm.mk (TFCoA)
      repeat' first | (apply Sm.mk; refine Ys ?_) | refine WP.seq fun K hK => ?_ | (apply Ob.mk; exact Yo) | refine And.intro (Ob.out ?_) ?_ | refine Y1CoA ?_ | refine Yc (c := c1) (r := ?_) | refine Yc (c := c2) (r := ?_) | refine YzCoA ?_ | (refine WP.cond rfl (fun hc => ?_) (fun hc => ?_) <;> (try simp only [ZC, reduceCtorEq, ZD] at hc) <;> (try exact absurd hc (by decide)) <;> (try (exfalso; omega))) | refine Rt.mk (And.intro (fun hg => Sm.out ?_) fun hg => Sm.out ?_) | (refine Nu.mk ?_; first | (fail_if_success have := nb1); intro nb1 | (fail_if_success have := nb2); intro nb2 | (fail_if_success have := nb3); intro nb3 | (fail_if_success have := nb4); intro nb4 | intro nbz) | (apply Yfr; refine Yf FR fun hFRb FR => ?_) | refine Two.mk ?_ ?_ | (apply Yxc; exact Yx) | refine Cs.mk fun hcs => Sm.out ?_ | go_step | omega | (simp only [maxLen_eq]; omega) | exact trivial
      (refine Yg ?_; try exact trivial)
    · cases x
      · refine ACt.intro Tryd.func17 rfl (by kernel_rfl) (by simp [Tryd.ntmps17]) (fun cx => ?_)
        simp only [argE, Tryd.ntmps17, Tryd.results17]
        first | (have FRx := FR; clear FRx) | have FR := fr0S
        have FA := Sm.mk (And.intro TFCoA hx')
        repeat' first | (apply Sm.mk; refine Ys ?_) | refine WP.seq fun K hK => ?_ | (apply Ob.mk; exact Yo) | refine And.intro (Ob.out ?_) ?_ | refine Y1CoA ?_ | refine Yc (c := c1) (r := ?_) | refine Yc (c := c2) (r := ?_) | refine YzCoA ?_ | (refine WP.cond rfl (fun hc => ?_) (fun hc => ?_) <;> (try simp only [ZC, reduceCtorEq, ZD] at hc) <;> (try exact absurd hc (by decide)) <;> (try (exfalso; omega))) | refine Rt.mk (And.intro (fun hg => Sm.out ?_) fun hg => Sm.out ?_) | (refine Nu.mk ?_; first | (fail_if_success have := nb1); intro nb1 | (fail_if_success have := nb2); intro nb2 | (fail_if_success have := nb3); intro nb3 | (fail_if_success have := nb4); intro nb4 | intro nbz) | (apply Yfr; refine Yf FR fun hFRb FR => ?_) | refine Two.mk ?_ ?_ | (apply Yxc; exact Yx) | refine Cs.mk fun hcs => Sm.out ?_ | go_step | omega | (simp only [maxLen_eq]; omega) | exact trivial
        (refine Yg ?_; try exact trivial)
      · refine ACt.intro Tryd.func17 rfl (by kernel_rfl) (by simp [Tryd.ntmps17]) (fun cx => ?_)
        simp only [argE, Tryd.ntmps17, Tryd.results17]
        first | (have FRx := FR; clear FRx) | have FR := fr0S
        have FA := Sm.mk (And.intro TFCoA (And.intro hx' hy))
        repeat' first | (apply Sm.mk; refine Ys ?_) | refine WP.seq fun K hK => ?_ | (apply Ob.mk; exact Yo) | refine And.intro (Ob.out ?_) ?_ | refine Y1CoA ?_ | refine Yc (c := c1) (r := ?_) | refine Yc (c := c2) (r := ?_) | refine YzCoA ?_ | (refine WP.cond rfl (fun hc => ?_) (fun hc => ?_) <;> (try simp only [ZC, reduceCtorEq, ZD] at hc) <;> (try exact absurd hc (by decide)) <;> (try (exfalso; omega))) | refine Rt.mk (And.intro (fun hg => Sm.out ?_) fun hg => Sm.out ?_) | (refine Nu.mk ?_; first | (fail_if_success have := nb1); intro nb1 | (fail_if_success have := nb2); intro nb2 | (fail_if_success have := nb3); intro nb3 | (fail_if_success have := nb4); intro nb4 | intro nbz) | (apply Yfr; refine Yf FR fun hFRb FR => ?_) | refine Two.mk ?_ ?_ | (apply Yxc; exact Yx) | refine Cs.mk fun hcs => Sm.out ?_ | go_step | omega | (simp only [maxLen_eq]; omega) | exact trivial
        (have FA := Sm.mk (And.intro hy FA.out); refine Yg ?_; try exact trivial)
def hvB (k : Ky) : Bool := decide ((k.g.size : Int) > 500) || decide ((k.r.size : Int) > 500)
theorem heavy_ct (k : Ky) : ACt Tryd.prog 16 [kv k] [] (Fn (bv (hvB k))) := by
  unfold hvB
  obtain ⟨x, hx⟩ : ∃ x, decide ((k.g.size : Int) > 500) = x := ⟨_, rfl⟩
  obtain ⟨y, hy⟩ : ∃ y, decide ((k.r.size : Int) > 500) = y := ⟨_, rfl⟩
  rw [hx, hy]
  obtain ⟨kg, kr, kp, ke, ks⟩ := k
  simp only at hx hy
  cases x
  · refine ACt.intro Tryd.func16 rfl (by kernel_rfl) (by simp [Tryd.ntmps16]) (fun cx => ?_)
    simp only [argE, Tryd.ntmps16, Tryd.results16]
    first | (have FRx := FR; clear FRx) | have FR := fr0S
    have FA := Sm.mk (And.intro TFCoA (And.intro hx hy))
    repeat' first | (apply Sm.mk; refine Ys ?_) | refine WP.seq fun K hK => ?_ | (apply Ob.mk; exact Yo) | refine And.intro (Ob.out ?_) ?_ | refine Y1CoA ?_ | refine YzCoA ?_ | (refine WP.cond rfl (fun hc => ?_) (fun hc => ?_) <;> (try simp only [ZC, reduceCtorEq, ZD] at hc) <;> (try exact absurd hc (by decide)) <;> (try (exfalso; omega))) | refine Rt.mk (And.intro (fun hg => Sm.out ?_) fun hg => Sm.out ?_) | (refine Nu.mk ?_; first | (fail_if_success have := nb1); intro nb1 | (fail_if_success have := nb2); intro nb2 | (fail_if_success have := nb3); intro nb3 | (fail_if_success have := nb4); intro nb4 | intro nbz) | (apply Yfr; refine Yf FR fun hFRb FR => ?_) | refine Two.mk ?_ ?_ | (apply Yxc; exact Yx) | refine Cs.mk fun hcs => Sm.out ?_ | go_step | omega | (simp only [maxLen_eq]; omega) | exact trivial
    (have FA := Sm.mk (And.intro hy FA.out); refine Yg ?_; try exact trivial)
  · refine ACt.intro Tryd.func16 rfl (by kernel_rfl) (by simp [Tryd.ntmps16]) (fun cx => ?_)
    simp only [argE, Tryd.ntmps16, Tryd.results16]
    first | (have FRx := FR; clear FRx) | have FR := fr0S
    have FA := Sm.mk (And.intro TFCoA (And.intro hx hy))
    repeat' first | (apply Sm.mk; refine Ys ?_) | refine WP.seq fun K hK => ?_ | (apply Ob.mk; exact Yo) | refine And.intro (Ob.out ?_) ?_ | refine Y1CoA ?_ | refine YzCoA ?_ | (refine WP.cond rfl (fun hc => ?_) (fun hc => ?_) <;> (try simp only [ZC, reduceCtorEq, ZD] at hc) <;> (try exact absurd hc (by decide)) <;> (try (exfalso; omega))) | refine Rt.mk (And.intro (fun hg => Sm.out ?_) fun hg => Sm.out ?_) | (refine Nu.mk ?_; first | (fail_if_success have := nb1); intro nb1 | (fail_if_success have := nb2); intro nb2 | (fail_if_success have := nb3); intro nb3 | (fail_if_success have := nb4); intro nb4 | intro nbz) | (apply Yfr; refine Yf FR fun hFRb FR => ?_) | refine Two.mk ?_ ?_ | (apply Yxc; exact Yx) | refine Cs.mk fun hcs => Sm.out ?_ | go_step | omega | (simp only [maxLen_eq]; omega) | exact trivial
    (have FA := Sm.mk (And.intro hx FA.out); refine Yg ?_; try exact trivial)
structure Sl where
  nm : ByteArray
  gl : ByteArray
  w : Int
  f : Int
  t : Int
abbrev siv (s : Sl) : AV := .agg [.lit (.string s.nm), .lit (.string s.gl), iv .i64 s.w, iv .i64 s.f, iv .i64 s.t]
abbrev bs (s : ByteArray) : List Int := ub s.data.toList
theorem str_empty (s : ByteArray) : (s.toList == (⟨#[]⟩ : ByteArray).toList) = decide (s.size = 0) := by
  obtain ⟨e, hb⟩ := s_bstr s
  have h := str_eq (bs s) [] hb (fun i hi => by simp at hi)
  rw [← e] at h
  have h2 : bstr [] = (⟨#[]⟩ : ByteArray) := rfl
  rw [h2] at h
  rw [h]
  have hl : (bs s).length = s.size := by conv => rhs; rw [e, bstr_size]
  by_cases h0 : s.size = 0
  · rw [decide_eq_true h0, decide_eq_true (List.eq_nil_of_length_eq_zero (by rw [hl]; exact h0))]
  · rw [decide_eq_false h0, decide_eq_false fun hn => h0 (by rw [← hl, hn]; rfl)]
end Go.Proofs.YtpidkkgjgichdaaDoor
