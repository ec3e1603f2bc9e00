/-
  The walks and the laws that the statement leans on, part 15.
-/
import Derived.Test.YtaffbklkjjmmdaaDoorB10
import Derived.Test.YtaffbklkjjmmdaaDoorB14
namespace Go.Proofs.YtaffbklkjjmmdaaDoor.Wi
open Go
set_option linter.unusedVariables false
set_option linter.unusedSimpArgs false
set_option linter.defProp false
def TFWiW :=
  And.intro (And.intro (And.intro (And.intro (And.intro tyc0 (And.intro tyc2 zmb2)) (And.intro tyc3 (And.intro zmb3 tyc4))) (And.intro (And.intro zmb4 (And.intro tyc5 zmb5)) (And.intro tyc9 (And.intro zmb9 tyc23)))) (And.intro (And.intro (And.intro zmb23 (And.intro tyc40 zmb40)) (And.intro tyc47 (And.intro elt47 mkz47))) (And.intro (And.intro apT47 (And.intro elk47 zmb47)) (And.intro tyc49 (And.intro mth49_73 mth49_72))))) (And.intro (And.intro (And.intro (And.intro mth49_71 (And.intro con49 zmb49)) (And.intro tyc71 (And.intro foff71_0 fpart71_0))) (And.intro (And.intro foff71_1 (And.intro fpart71_1 zmb71)) (And.intro bldT71 (And.intro tyc96 tyc98)))) (And.intro (And.intro (And.intro Tryd.underlying0 (And.intro Tryd.underlying2 Tryd.underlying3)) (And.intro Tryd.underlying4 (And.intro Tryd.underlying5 Tryd.underlying9))) (And.intro (And.intro Tryd.underlying23 (And.intro Tryd.underlying40 Tryd.underlying47)) (And.intro (And.intro Tryd.underlying49 Tryd.underlying71) (And.intro Tryd.underlying96 Tryd.underlying98)))))
theorem Y1WiW {G R : Prop} (r : R) (h : R → G := by intro r; first | (apply WP.region; exact rvc_sound _ _ (Sm.out r)) | exact WP.drawK rfl mixed (by decide +kernel) (Sm.out r) | (apply WP.block; exact r) | (apply WP.skip; exact Yq r) | (apply WP.exit; exact Yq r) | (apply WP.ret; exact Sm.out r) | exact WP.cond rfl (fun _ => r) (fun hg => absurd hg (by decide)) | exact WP.cond rfl (fun hg => absurd hg (by decide)) (fun _ => r) | exact Rt.mk (And.intro (fun _ => Sm.out r) fun hg => absurd hg (by decide)) | exact Rt.mk (And.intro (fun hg => absurd hg (by decide)) fun _ => Sm.out r)) : G := h r
theorem YzWiW {G R : Prop} (r : R) (h : R → G := by intro r; first | (apply ExG.no; exact Sm.out r) | (apply Or.inl; apply ExG.no; exact Sm.out r) | exact Or.inl (And.intro (fun hg => absurd hg (by decide)) (ExG.no (Sm.out r)))) : G := h r
def rO {α : Type} : Option (α × List Int) → MB
  | some p => rd p.2 false
  | none => rdN
def oE {α : Type} (d : AV) (f : α → AV) : Option (α × List Int) → AV
  | some p => f p.1
  | none => d
def nF (zs : List Int) : Option (Nat × List Int) := (gF 0 zs).map fun p => p.2
def iF (zs : List Int) : Option (Int × List Int) :=
  match gF 16 zs with
  | none => none
  | some (s, n, r) => if (s ≠ 0 ∧ (n = 0 ∨ 9223372036854775808 < n)) ∨ (s = 0 ∧ 9223372036854775807 < n) then none else some (if s ≠ 0 then -(n : Int) else (n : Int), r)
def cF (m : Int) (zs : List Int) : Option (Nat × List Int) :=
  match nF zs with
  | none => none
  | some (n, r) => if m < 0 ∨ m < (n : Int) then none else some (n, r)
def tF (m : Int) (zs : List Int) : Option (List Int × List Int) :=
  match cF m zs with
  | none => none
  | some (n, r) => if r.length < n then none else some (r.take n, r.drop n)
def fF : List Int → Option (Bool × List Int)
  | [] => none
  | h :: t => if 1 < h then none else some (h == 1, t)
theorem gF_bd {sgn : Int} {zs r : List Int} {s : Int} {n : Nat} (hb : By zs) (h : gF sgn zs = some (s, n, r)) : n < 18446744073709551616 ∧ By r ∧ r.length < zs.length ∧ (sgn = 16 ∨ sgn = 0 → s = 0 ∨ s = 16) ∧ r = zs.drop (zs.length - r.length) := by
  cases zs with
  | nil => cases h
  | cons c t =>
    simp only [gF] at h
    split at h
    · cases h
    · rename_i hn
      simp only [Option.some.injEq, Prod.mk.injEq] at h
      obtain ⟨rfl, rfl, rfl⟩ := h
      have hv := valL_lt (hb.tail.take (ibit .andNot .u8 c sgn).toNat)
      obtain ⟨K, hK⟩ : ∃ K, K = (ibit .andNot .u8 c sgn).toNat := ⟨_, rfl⟩
      rw [← hK] at hn hv ⊢
      have hb8 : (256 : Nat) ^ (t.take K).length ≤ 256 ^ 8 := Nat.pow_le_pow_right (by omega) (by simp; omega)
      refine ⟨by omega, hb.tail.drop _, by simp; omega, ?_, ?_⟩
      · have hh := hb c (List.mem_cons_self ..)
        obtain ⟨m, rfl⟩ := Int.eq_ofNat_of_zero_le hh.1
        obtain ⟨k, s, hk, a1, a2, _, a5, a3, a4⟩ := and256 m (by omega)
        rintro (rfl | rfl)
        · rw [a2, a5]; split <;> simp
        · exact .inl a4
      · simp only [List.length_cons, List.length_drop]
        rw [show t.length + 1 - (t.length - K) = K + 1 by omega, List.drop_succ_cons]
set_option maxRecDepth 8000 in
theorem numN (b : Nat) : ACt Tryd.prog 74 [pt b 0] [(b, rdN)] (fun r F' => r = nu 0 ∧ F' = [(b, rdN)]) := by
  refine ACt.intro Tryd.func74 rfl (by kernel_rfl) (by simp [Tryd.ntmps74]) (fun cx => ?_)
  simp only [argE, Tryd.ntmps74, Tryd.results74]
  first | (have FRx := FR; clear FRx) | have FR := fr0
  have FA := Sm.mk (TFWiW)
  repeat' first | (apply Sm.mk; refine Ysn ?_) | refine WP.seq fun K hK => ?_ | (apply Ob.mk; exact Yo) | refine And.intro (Ob.out ?_) ?_ | refine Y1WiW ?_ | refine Yun (c := getN b 0) (r := ?_) | refine YzWiW ?_ | (refine WP.cond rfl (fun hc => ?_) (fun hc => ?_) <;> (try simp only [ZC, reduceCtorEq, ZD] at hc) <;> (try exact absurd hc (by decide)) <;> (try (exfalso; omega))) | refine Rt.mk (And.intro (fun hg => Sm.out ?_) fun hg => Sm.out ?_) | (refine Nu.mk ?_; first | (fail_if_success have := nb1); intro nb1 | (fail_if_success have := nb2); intro nb2 | intro nbz) | (refine Fr.mk ?_; intro hfr; replace FR := And.intro hfr FR; clear hfr; refine Sm.out ?_) | refine Two.mk ?_ ?_ | (apply Yxc; exact Yx) | refine Cs.mk fun hcs => Sm.out ?_ | go_step | omega | (simp only [maxLen_eq]; omega) | exact trivial | refine Or.inr (Rt.mk (And.intro (fun hg => Sm.out ?_) fun hg => Sm.out ?_))
  (refine OutQ.upd (by simp only [resv, ZK, look, loadv, loadn, loadnm, load1, load1m, hget, ↓reduceIte, Nat.reduceEqDiff, Nat.reduceAdd, Nat.reduceMul, Nat.reduceLeDiff, Nat.reduceLT, reduceCtorEq, TFWiW, FR]) (by simp only [resv, resA, ZK, look, loadv, loadn, loadnm, load1, load1m, hget, ↓reduceIte, Nat.reduceEqDiff, Nat.reduceAdd, Nat.reduceMul, Nat.reduceLeDiff, Nat.reduceLT, reduceCtorEq, TFWiW, FR]; first | done | rfl) (by simp only [hget, ↓reduceIte, if_true, if_false, FR]; first | done | rfl) ?_ <;> first | exact rfl | (simp only [ZK, look, loadv, loadn, loadnm, load1, load1m, hget, ↓reduceIte, Nat.reduceEqDiff, Nat.reduceAdd, Nat.reduceMul, Nat.reduceLeDiff, Nat.reduceLT, reduceCtorEq, TFWiW, FR]; done) | skip)
  all_goals rfl
set_option maxRecDepth 8000 in
theorem numX (b : Nat) (zs : List Int) (hb : By zs) (hz : zs.length ≤ 10000) : ACt Tryd.prog 74 [pt b 0] [(b, rd zs false)] (fun r F' => r = oE (nu 0) nu (nF zs) ∧ F' = [(b, rO (nF zs))]) := by
  have c1 := getX b 0 zs (.inl rfl) hb hz
  unfold nF
  cases hg : gF 0 zs with
  | none =>
    rw [hg] at c1
    have c2 : ACt Tryd.prog 72 [pt b 0, iv .u8 0] [(b, rd zs false)] (fun r F' => r = .tup [iv .u8 0, nu 0] ∧ F' = [(b, rdN)]) := c1
    show ACt Tryd.prog 74 [pt b 0] [(b, rd zs false)] (fun r F' => r = nu 0 ∧ F' = [(b, rdN)])
    refine ACt.intro Tryd.func74 rfl (by kernel_rfl) (by simp [Tryd.ntmps74]) (fun cx => ?_)
    simp only [argE, Tryd.ntmps74, Tryd.results74]
    first | (have FRx := FR; clear FRx) | have FR := fr0
    have FA := Sm.mk (TFWiW)
    repeat' first | (apply Sm.mk; refine Ysn ?_) | refine WP.seq fun K hK => ?_ | (apply Ob.mk; exact Yo) | refine And.intro (Ob.out ?_) ?_ | refine Y1WiW ?_ | refine Yun (c := c2) (r := ?_) | refine YzWiW ?_ | (refine WP.cond rfl (fun hc => ?_) (fun hc => ?_) <;> (try simp only [ZC, reduceCtorEq, ZD] at hc) <;> (try exact absurd hc (by decide)) <;> (try (exfalso; omega))) | refine Rt.mk (And.intro (fun hg => Sm.out ?_) fun hg => Sm.out ?_) | (refine Nu.mk ?_; first | (fail_if_success have := nb1); intro nb1 | (fail_if_success have := nb2); intro nb2 | intro nbz) | (refine Fr.mk ?_; intro hfr; replace FR := And.intro hfr FR; clear hfr; refine Sm.out ?_) | refine Two.mk ?_ ?_ | (apply Yxc; exact Yx) | refine Cs.mk fun hcs => Sm.out ?_ | go_step | omega | (simp only [maxLen_eq]; omega) | exact trivial | refine Or.inr (Rt.mk (And.intro (fun hg => Sm.out ?_) fun hg => Sm.out ?_))
    (refine OutQ.upd (by simp only [resv, ZK, look, loadv, loadn, loadnm, load1, load1m, hget, ↓reduceIte, Nat.reduceEqDiff, Nat.reduceAdd, Nat.reduceMul, Nat.reduceLeDiff, Nat.reduceLT, reduceCtorEq, TFWiW, FR]) (by simp only [resv, resA, ZK, look, loadv, loadn, loadnm, load1, load1m, hget, ↓reduceIte, Nat.reduceEqDiff, Nat.reduceAdd, Nat.reduceMul, Nat.reduceLeDiff, Nat.reduceLT, reduceCtorEq, TFWiW, FR]; first | done | rfl) (by simp only [hget, ↓reduceIte, if_true, if_false, FR]; first | done | rfl) ?_ <;> first | exact rfl | (simp only [ZK, look, loadv, loadn, loadnm, load1, load1m, hget, ↓reduceIte, Nat.reduceEqDiff, Nat.reduceAdd, Nat.reduceMul, Nat.reduceLeDiff, Nat.reduceLT, reduceCtorEq, TFWiW, FR]; done) | skip)
  | some p =>
    obtain ⟨s, n, q⟩ := p
    rw [hg] at c1
    have c2 : ACt Tryd.prog 72 [pt b 0, iv .u8 0] [(b, rd zs false)] (fun r F' => r = .tup [iv .u8 s, nu n] ∧ F' = [(b, rd q false)]) := c1
    show ACt Tryd.prog 74 [pt b 0] [(b, rd zs false)] (fun r F' => r = nu n ∧ F' = [(b, rd q false)])
    refine ACt.intro Tryd.func74 rfl (by kernel_rfl) (by simp [Tryd.ntmps74]) (fun cx => ?_)
    simp only [argE, Tryd.ntmps74, Tryd.results74]
    first | (have FRx := FR; clear FRx) | have FR := fr0
    have FA := Sm.mk (TFWiW)
    repeat' first | (apply Sm.mk; refine Ysn ?_) | refine WP.seq fun K hK => ?_ | (apply Ob.mk; exact Yo) | refine And.intro (Ob.out ?_) ?_ | refine Y1WiW ?_ | refine Yun (c := c2) (r := ?_) | refine YzWiW ?_ | (refine WP.cond rfl (fun hc => ?_) (fun hc => ?_) <;> (try simp only [ZC, reduceCtorEq, ZD] at hc) <;> (try exact absurd hc (by decide)) <;> (try (exfalso; omega))) | refine Rt.mk (And.intro (fun hg => Sm.out ?_) fun hg => Sm.out ?_) | (refine Nu.mk ?_; first | (fail_if_success have := nb1); intro nb1 | (fail_if_success have := nb2); intro nb2 | intro nbz) | (refine Fr.mk ?_; intro hfr; replace FR := And.intro hfr FR; clear hfr; refine Sm.out ?_) | refine Two.mk ?_ ?_ | (apply Yxc; exact Yx) | refine Cs.mk fun hcs => Sm.out ?_ | go_step | omega | (simp only [maxLen_eq]; omega) | exact trivial | refine Or.inr (Rt.mk (And.intro (fun hg => Sm.out ?_) fun hg => Sm.out ?_))
    (refine OutQ.upd (by simp only [resv, ZK, look, loadv, loadn, loadnm, load1, load1m, hget, ↓reduceIte, Nat.reduceEqDiff, Nat.reduceAdd, Nat.reduceMul, Nat.reduceLeDiff, Nat.reduceLT, reduceCtorEq, TFWiW, FR]) (by simp only [resv, resA, ZK, look, loadv, loadn, loadnm, load1, load1m, hget, ↓reduceIte, Nat.reduceEqDiff, Nat.reduceAdd, Nat.reduceMul, Nat.reduceLeDiff, Nat.reduceLT, reduceCtorEq, TFWiW, FR]; first | done | rfl) (by simp only [hget, ↓reduceIte, if_true, if_false, FR]; first | done | rfl) ?_ <;> first | exact rfl | (simp only [ZK, look, loadv, loadn, loadnm, load1, load1m, hget, ↓reduceIte, Nat.reduceEqDiff, Nat.reduceAdd, Nat.reduceMul, Nat.reduceLeDiff, Nat.reduceLT, reduceCtorEq, TFWiW, FR]; done) | skip)
set_option maxRecDepth 8000 in
theorem intN (b : Nat) : ACt Tryd.prog 51 [pt b 0] [(b, rdN)] (fun r F' => r = iv .i64 0 ∧ F' = [(b, rdN)]) := by
  refine ACt.intro Tryd.func51 rfl (by kernel_rfl) (by simp [Tryd.ntmps51]) (fun cx => ?_)
  simp only [argE, Tryd.ntmps51, Tryd.results51]
  first | (have FRx := FR; clear FRx) | have FR := fr0
  have FA := Sm.mk (TFWiW)
  repeat' first | (apply Sm.mk; refine Ysn ?_) | refine WP.seq fun K hK => ?_ | (apply Ob.mk; exact Yo) | refine And.intro (Ob.out ?_) ?_ | refine Y1WiW ?_ | refine Yun (c := getN b 16) (r := ?_) | refine Yun (c := bad_e b true) (r := ?_) | refine YzWiW ?_ | (refine WP.cond rfl (fun hc => ?_) (fun hc => ?_) <;> (try simp only [ZC, reduceCtorEq, ZD] at hc) <;> (try exact absurd hc (by decide)) <;> (try (exfalso; omega))) | refine Rt.mk (And.intro (fun hg => Sm.out ?_) fun hg => Sm.out ?_) | (refine Nu.mk ?_; first | (fail_if_success have := nb1); intro nb1 | (fail_if_success have := nb2); intro nb2 | intro nbz) | (refine Fr.mk ?_; intro hfr; replace FR := And.intro hfr FR; clear hfr; refine Sm.out ?_) | refine Two.mk ?_ ?_ | (apply Yxc; exact Yx) | refine Cs.mk fun hcs => Sm.out ?_ | go_step | omega | (simp only [maxLen_eq]; omega) | exact trivial | refine Or.inr (Rt.mk (And.intro (fun hg => Sm.out ?_) fun hg => Sm.out ?_))
  (refine OutQ.upd (by simp only [resv, ZK, look, loadv, loadn, loadnm, load1, load1m, hget, ↓reduceIte, Nat.reduceEqDiff, Nat.reduceAdd, Nat.reduceMul, Nat.reduceLeDiff, Nat.reduceLT, reduceCtorEq, TFWiW, FR]) (by simp only [resv, resA, ZK, look, loadv, loadn, loadnm, load1, load1m, hget, ↓reduceIte, Nat.reduceEqDiff, Nat.reduceAdd, Nat.reduceMul, Nat.reduceLeDiff, Nat.reduceLT, reduceCtorEq, TFWiW, FR]; first | done | rfl) (by simp only [hget, ↓reduceIte, if_true, if_false, FR]; first | done | rfl) ?_ <;> first | exact rfl | (simp only [ZK, look, loadv, loadn, loadnm, load1, load1m, hget, ↓reduceIte, Nat.reduceEqDiff, Nat.reduceAdd, Nat.reduceMul, Nat.reduceLeDiff, Nat.reduceLT, reduceCtorEq, TFWiW, FR]; done) | skip)
set_option maxRecDepth 8000 in
set_option maxHeartbeats 1000000 in
theorem intX (b : Nat) (zs : List Int) (hb : By zs) (hz : zs.length ≤ 10000) : ACt Tryd.prog 51 [pt b 0] [(b, rd zs false)] (fun r F' => r = oE (iv .i64 0) (iv .i64) (iF zs) ∧ F' = [(b, rO (iF zs))]) := by
  have c1 := getX b 16 zs (.inr rfl) hb hz
  unfold iF
  cases hg : gF 16 zs with
  | none =>
    rw [hg] at c1
    have c2 : ACt Tryd.prog 72 [pt b 0, iv .u8 16] [(b, rd zs false)] (fun r F' => r = .tup [iv .u8 0, nu 0] ∧ F' = [(b, rdN)]) := c1
    show ACt Tryd.prog 51 [pt b 0] [(b, rd zs false)] (fun r F' => r = iv .i64 0 ∧ F' = [(b, rdN)])
    refine ACt.intro Tryd.func51 rfl (by kernel_rfl) (by simp [Tryd.ntmps51]) (fun cx => ?_)
    simp only [argE, Tryd.ntmps51, Tryd.results51]
    first | (have FRx := FR; clear FRx) | have FR := fr0
    have FA := Sm.mk (TFWiW)
    repeat' first | (apply Sm.mk; refine Ysn ?_) | refine WP.seq fun K hK => ?_ | (apply Ob.mk; exact Yo) | refine And.intro (Ob.out ?_) ?_ | refine Y1WiW ?_ | refine Yun (c := c2) (r := ?_) | refine Yun (c := bad_e b true) (r := ?_) | refine YzWiW ?_ | (refine WP.cond rfl (fun hc => ?_) (fun hc => ?_) <;> (try simp only [ZC, reduceCtorEq, ZD] at hc) <;> (try exact absurd hc (by decide)) <;> (try (exfalso; omega))) | refine Rt.mk (And.intro (fun hg => Sm.out ?_) fun hg => Sm.out ?_) | (refine Nu.mk ?_; first | (fail_if_success have := nb1); intro nb1 | (fail_if_success have := nb2); intro nb2 | intro nbz) | (refine Fr.mk ?_; intro hfr; replace FR := And.intro hfr FR; clear hfr; refine Sm.out ?_) | refine Two.mk ?_ ?_ | (apply Yxc; exact Yx) | refine Cs.mk fun hcs => Sm.out ?_ | go_step | omega | (simp only [maxLen_eq]; omega) | exact trivial | refine Or.inr (Rt.mk (And.intro (fun hg => Sm.out ?_) fun hg => Sm.out ?_))
    (refine OutQ.upd (by simp only [resv, ZK, look, loadv, loadn, loadnm, load1, load1m, hget, ↓reduceIte, Nat.reduceEqDiff, Nat.reduceAdd, Nat.reduceMul, Nat.reduceLeDiff, Nat.reduceLT, reduceCtorEq, TFWiW, FR]) (by simp only [resv, resA, ZK, look, loadv, loadn, loadnm, load1, load1m, hget, ↓reduceIte, Nat.reduceEqDiff, Nat.reduceAdd, Nat.reduceMul, Nat.reduceLeDiff, Nat.reduceLT, reduceCtorEq, TFWiW, FR]; first | done | rfl) (by simp only [hget, ↓reduceIte, if_true, if_false, FR]; first | done | rfl) ?_ <;> first | exact rfl | (simp only [ZK, look, loadv, loadn, loadnm, load1, load1m, hget, ↓reduceIte, Nat.reduceEqDiff, Nat.reduceAdd, Nat.reduceMul, Nat.reduceLeDiff, Nat.reduceLT, reduceCtorEq, TFWiW, FR]; done) | skip)
  | some p =>
    obtain ⟨s, n, q⟩ := p
    rw [hg] at c1
    obtain ⟨hn, _, _, hs, _⟩ := gF_bd hb hg
    have c2 : ACt Tryd.prog 72 [pt b 0, iv .u8 16] [(b, rd zs false)] (fun r F' => r = .tup [iv .u8 s, nu n] ∧ F' = [(b, rd q false)]) := c1
    simp only
    have e0 : ((0 : Int) == 0) = true := by decide
    have e1 : ((0 : Int) != 0) = false := by decide
    have e2 : ((16 : Int) == 0) = false := by decide
    have e3 : ((16 : Int) != 0) = true := by decide
    rcases hs (.inl rfl) with rfl | rfl
    · have d1 : decide ((n : Int) > 9223372036854775807) = decide (9223372036854775807 < n) := by simp; omega
      by_cases hc : 9223372036854775807 < n
      · rw [if_pos (.inr ⟨rfl, hc⟩)]
        rw [decide_eq_true hc] at d1
        show ACt Tryd.prog 51 [pt b 0] [(b, rd zs false)] (fun r F' => r = iv .i64 0 ∧ F' = [(b, rdN)])
        refine ACt.intro Tryd.func51 rfl (by kernel_rfl) (by simp [Tryd.ntmps51]) (fun cx => ?_)
        simp only [argE, Tryd.ntmps51, Tryd.results51]
        first | (have FRx := FR; clear FRx) | have FR := fr0
        have FA := Sm.mk (And.intro TFWiW (And.intro e0 (And.intro e1 d1)))
        repeat' first | (apply Sm.mk; refine Ysn ?_) | refine WP.seq fun K hK => ?_ | (apply Ob.mk; exact Yo) | refine And.intro (Ob.out ?_) ?_ | refine Y1WiW ?_ | refine Yun (c := c2) (r := ?_) | refine Yun (c := badR b q false) (r := ?_) | refine Yun (c := failR b q) (r := ?_) | refine YzWiW ?_ | (refine WP.cond rfl (fun hc => ?_) (fun hc => ?_) <;> (try simp only [ZC, reduceCtorEq, ZD] at hc) <;> (try exact absurd hc (by decide)) <;> (try (exfalso; omega))) | refine Rt.mk (And.intro (fun hg => Sm.out ?_) fun hg => Sm.out ?_) | (refine Nu.mk ?_; first | (fail_if_success have := nb1); intro nb1 | (fail_if_success have := nb2); intro nb2 | intro nbz) | (refine Fr.mk ?_; intro hfr; replace FR := And.intro hfr FR; clear hfr; refine Sm.out ?_) | refine Two.mk ?_ ?_ | (apply Yxc; exact Yx) | refine Cs.mk fun hcs => Sm.out ?_ | go_step | omega | (simp only [maxLen_eq]; omega) | exact trivial | refine Or.inr (Rt.mk (And.intro (fun hg => Sm.out ?_) fun hg => Sm.out ?_))
        (refine OutQ.upd (by simp only [resv, ZK, look, loadv, loadn, loadnm, load1, load1m, hget, ↓reduceIte, Nat.reduceEqDiff, Nat.reduceAdd, Nat.reduceMul, Nat.reduceLeDiff, Nat.reduceLT, reduceCtorEq, TFWiW, FR]) (by simp only [resv, resA, ZK, look, loadv, loadn, loadnm, load1, load1m, hget, ↓reduceIte, Nat.reduceEqDiff, Nat.reduceAdd, Nat.reduceMul, Nat.reduceLeDiff, Nat.reduceLT, reduceCtorEq, TFWiW, FR]; first | done | rfl) (by simp only [hget, ↓reduceIte, if_true, if_false, FR]; first | done | rfl) ?_ <;> first | exact rfl | (simp only [ZK, look, loadv, loadn, loadnm, load1, load1m, hget, ↓reduceIte, Nat.reduceEqDiff, Nat.reduceAdd, Nat.reduceMul, Nat.reduceLeDiff, Nat.reduceLT, reduceCtorEq, TFWiW, FR]; done) | skip)
      · rw [if_neg (by omega)]
        rw [decide_eq_false hc] at d1
        have w : IntKind.i64.wrap (n : Int) = (n : Int) := wrap_i64_nat (by omega)
        show ACt Tryd.prog 51 [pt b 0] [(b, rd zs false)] (fun r F' => r = iv .i64 (n : Int) ∧ F' = [(b, rd q false)])
        refine ACt.intro Tryd.func51 rfl (by kernel_rfl) (by simp [Tryd.ntmps51]) (fun cx => ?_)
        simp only [argE, Tryd.ntmps51, Tryd.results51]
        first | (have FRx := FR; clear FRx) | have FR := fr0
        have FA := Sm.mk (And.intro TFWiW (And.intro e0 (And.intro e1 (And.intro d1 w))))
        repeat' first | (apply Sm.mk; refine Ysn ?_) | refine WP.seq fun K hK => ?_ | (apply Ob.mk; exact Yo) | refine And.intro (Ob.out ?_) ?_ | refine Y1WiW ?_ | refine Yun (c := c2) (r := ?_) | refine Yun (c := badR b q false) (r := ?_) | refine YzWiW ?_ | (refine WP.cond rfl (fun hc => ?_) (fun hc => ?_) <;> (try simp only [ZC, reduceCtorEq, ZD] at hc) <;> (try exact absurd hc (by decide)) <;> (try (exfalso; omega))) | refine Rt.mk (And.intro (fun hg => Sm.out ?_) fun hg => Sm.out ?_) | (refine Nu.mk ?_; first | (fail_if_success have := nb1); intro nb1 | (fail_if_success have := nb2); intro nb2 | intro nbz) | (refine Fr.mk ?_; intro hfr; replace FR := And.intro hfr FR; clear hfr; refine Sm.out ?_) | refine Two.mk ?_ ?_ | (apply Yxc; exact Yx) | refine Cs.mk fun hcs => Sm.out ?_ | go_step | omega | (simp only [maxLen_eq]; omega) | exact trivial | refine Or.inr (Rt.mk (And.intro (fun hg => Sm.out ?_) fun hg => Sm.out ?_))
        (refine OutQ.upd (by simp only [resv, ZK, look, loadv, loadn, loadnm, load1, load1m, hget, ↓reduceIte, Nat.reduceEqDiff, Nat.reduceAdd, Nat.reduceMul, Nat.reduceLeDiff, Nat.reduceLT, reduceCtorEq, TFWiW, FR]) (by simp only [resv, resA, ZK, look, loadv, loadn, loadnm, load1, load1m, hget, ↓reduceIte, Nat.reduceEqDiff, Nat.reduceAdd, Nat.reduceMul, Nat.reduceLeDiff, Nat.reduceLT, reduceCtorEq, TFWiW, FR]; first | done | rfl) (by simp only [hget, ↓reduceIte, if_true, if_false, FR]; first | done | rfl) ?_ <;> first | exact rfl | (simp only [ZK, look, loadv, loadn, loadnm, load1, load1m, hget, ↓reduceIte, Nat.reduceEqDiff, Nat.reduceAdd, Nat.reduceMul, Nat.reduceLeDiff, Nat.reduceLT, reduceCtorEq, TFWiW, FR]; done) | skip)
    · have d1 : decide ((n : Int) > 9223372036854775808) = decide (9223372036854775808 < n) := by simp; omega
      have d2 : ((n : Int) == 0) = decide (n = 0) := by rw [Bool.eq_iff_iff]; simp
      by_cases hc : n = 0 ∨ 9223372036854775808 < n
      · rw [if_pos (.inl ⟨by decide, hc⟩)]
        show ACt Tryd.prog 51 [pt b 0] [(b, rd zs false)] (fun r F' => r = iv .i64 0 ∧ F' = [(b, rdN)])
        refine ACt.intro Tryd.func51 rfl (by kernel_rfl) (by simp [Tryd.ntmps51]) (fun cx => ?_)
        simp only [argE, Tryd.ntmps51, Tryd.results51]
        by_cases hc0 : n = 0
        · rw [decide_eq_true hc0] at d2
          first | (have FRx := FR; clear FRx) | have FR := fr0
          have FA := Sm.mk (And.intro TFWiW (And.intro e2 (And.intro e3 (And.intro d1 d2))))
          repeat' first | (apply Sm.mk; refine Ysn ?_) | refine WP.seq fun K hK => ?_ | (apply Ob.mk; exact Yo) | refine And.intro (Ob.out ?_) ?_ | refine Y1WiW ?_ | refine Yun (c := c2) (r := ?_) | refine Yun (c := badR b q false) (r := ?_) | refine Yun (c := failR b q) (r := ?_) | refine YzWiW ?_ | (refine WP.cond rfl (fun hc => ?_) (fun hc => ?_) <;> (try simp only [ZC, reduceCtorEq, ZD] at hc) <;> (try exact absurd hc (by decide)) <;> (try (exfalso; omega))) | refine Rt.mk (And.intro (fun hg => Sm.out ?_) fun hg => Sm.out ?_) | (refine Nu.mk ?_; first | (fail_if_success have := nb1); intro nb1 | (fail_if_success have := nb2); intro nb2 | intro nbz) | (refine Fr.mk ?_; intro hfr; replace FR := And.intro hfr FR; clear hfr; refine Sm.out ?_) | refine Two.mk ?_ ?_ | (apply Yxc; exact Yx) | refine Cs.mk fun hcs => Sm.out ?_ | go_step | omega | (simp only [maxLen_eq]; omega) | exact trivial | refine Or.inr (Rt.mk (And.intro (fun hg => Sm.out ?_) fun hg => Sm.out ?_))
          (refine OutQ.upd (by simp only [resv, ZK, look, loadv, loadn, loadnm, load1, load1m, hget, ↓reduceIte, Nat.reduceEqDiff, Nat.reduceAdd, Nat.reduceMul, Nat.reduceLeDiff, Nat.reduceLT, reduceCtorEq, TFWiW, FR]) (by simp only [resv, resA, ZK, look, loadv, loadn, loadnm, load1, load1m, hget, ↓reduceIte, Nat.reduceEqDiff, Nat.reduceAdd, Nat.reduceMul, Nat.reduceLeDiff, Nat.reduceLT, reduceCtorEq, TFWiW, FR]; first | done | rfl) (by simp only [hget, ↓reduceIte, if_true, if_false, FR]; first | done | rfl) ?_ <;> first | exact rfl | (simp only [ZK, look, loadv, loadn, loadnm, load1, load1m, hget, ↓reduceIte, Nat.reduceEqDiff, Nat.reduceAdd, Nat.reduceMul, Nat.reduceLeDiff, Nat.reduceLT, reduceCtorEq, TFWiW, FR]; done) | skip)
        · rw [decide_eq_false hc0] at d2
          have d1 : decide ((n : Int) > 9223372036854775808) = true := by simp; omega
          first | (have FRx := FR; clear FRx) | have FR := fr0
          have FA := Sm.mk (And.intro TFWiW (And.intro e2 (And.intro e3 (And.intro d1 d2))))
          repeat' first | (apply Sm.mk; refine Ysn ?_) | refine WP.seq fun K hK => ?_ | (apply Ob.mk; exact Yo) | refine And.intro (Ob.out ?_) ?_ | refine Y1WiW ?_ | refine Yun (c := c2) (r := ?_) | refine Yun (c := badR b q false) (r := ?_) | refine Yun (c := failR b q) (r := ?_) | refine YzWiW ?_ | (refine WP.cond rfl (fun hc => ?_) (fun hc => ?_) <;> (try simp only [ZC, reduceCtorEq, ZD] at hc) <;> (try exact absurd hc (by decide)) <;> (try (exfalso; omega))) | refine Rt.mk (And.intro (fun hg => Sm.out ?_) fun hg => Sm.out ?_) | (refine Nu.mk ?_; first | (fail_if_success have := nb1); intro nb1 | (fail_if_success have := nb2); intro nb2 | intro nbz) | (refine Fr.mk ?_; intro hfr; replace FR := And.intro hfr FR; clear hfr; refine Sm.out ?_) | refine Two.mk ?_ ?_ | (apply Yxc; exact Yx) | refine Cs.mk fun hcs => Sm.out ?_ | go_step | omega | (simp only [maxLen_eq]; omega) | exact trivial | refine Or.inr (Rt.mk (And.intro (fun hg => Sm.out ?_) fun hg => Sm.out ?_))
          (refine OutQ.upd (by simp only [resv, ZK, look, loadv, loadn, loadnm, load1, load1m, hget, ↓reduceIte, Nat.reduceEqDiff, Nat.reduceAdd, Nat.reduceMul, Nat.reduceLeDiff, Nat.reduceLT, reduceCtorEq, TFWiW, FR]) (by simp only [resv, resA, ZK, look, loadv, loadn, loadnm, load1, load1m, hget, ↓reduceIte, Nat.reduceEqDiff, Nat.reduceAdd, Nat.reduceMul, Nat.reduceLeDiff, Nat.reduceLT, reduceCtorEq, TFWiW, FR]; first | done | rfl) (by simp only [hget, ↓reduceIte, if_true, if_false, FR]; first | done | rfl) ?_ <;> first | exact rfl | (simp only [ZK, look, loadv, loadn, loadnm, load1, load1m, hget, ↓reduceIte, Nat.reduceEqDiff, Nat.reduceAdd, Nat.reduceMul, Nat.reduceLeDiff, Nat.reduceLT, reduceCtorEq, TFWiW, FR]; done) | skip)
      · rw [if_neg (by omega)]
        have d1 : decide ((n : Int) > 9223372036854775808) = false := by simp; omega
        have d2 : ((n : Int) == 0) = false := by simp; omega
        have w : IntKind.i64.wrap (IntKind.u64.wrap (0 - (n : Int))) = -(n : Int) := by
          rw [wrap_u64_mod]; simp only [IntKind.wrap, IntKind.bits, IntKind.signed]; simp; omega
        show ACt Tryd.prog 51 [pt b 0] [(b, rd zs false)] (fun r F' => r = iv .i64 (-(n : Int)) ∧ F' = [(b, rd q false)])
        refine ACt.intro Tryd.func51 rfl (by kernel_rfl) (by simp [Tryd.ntmps51]) (fun cx => ?_)
        simp only [argE, Tryd.ntmps51, Tryd.results51]
        first | (have FRx := FR; clear FRx) | have FR := fr0
        have FA := Sm.mk (And.intro TFWiW (And.intro e2 (And.intro e3 (And.intro d1 (And.intro d2 w)))))
        repeat' first | (apply Sm.mk; refine Ysn ?_) | refine WP.seq fun K hK => ?_ | (apply Ob.mk; exact Yo) | refine And.intro (Ob.out ?_) ?_ | refine Y1WiW ?_ | refine Yun (c := c2) (r := ?_) | refine Yun (c := badR b q false) (r := ?_) | refine YzWiW ?_ | (refine WP.cond rfl (fun hc => ?_) (fun hc => ?_) <;> (try simp only [ZC, reduceCtorEq, ZD] at hc) <;> (try exact absurd hc (by decide)) <;> (try (exfalso; omega))) | refine Rt.mk (And.intro (fun hg => Sm.out ?_) fun hg => Sm.out ?_) | (refine Nu.mk ?_; first | (fail_if_success have := nb1); intro nb1 | (fail_if_success have := nb2); intro nb2 | intro nbz) | (refine Fr.mk ?_; intro hfr; replace FR := And.intro hfr FR; clear hfr; refine Sm.out ?_) | refine Two.mk ?_ ?_ | (apply Yxc; exact Yx) | refine Cs.mk fun hcs => Sm.out ?_ | go_step | omega | (simp only [maxLen_eq]; omega) | exact trivial | refine Or.inr (Rt.mk (And.intro (fun hg => Sm.out ?_) fun hg => Sm.out ?_))
        (refine OutQ.upd (by simp only [resv, ZK, look, loadv, loadn, loadnm, load1, load1m, hget, ↓reduceIte, Nat.reduceEqDiff, Nat.reduceAdd, Nat.reduceMul, Nat.reduceLeDiff, Nat.reduceLT, reduceCtorEq, TFWiW, FR]) (by simp only [resv, resA, ZK, look, loadv, loadn, loadnm, load1, load1m, hget, ↓reduceIte, Nat.reduceEqDiff, Nat.reduceAdd, Nat.reduceMul, Nat.reduceLeDiff, Nat.reduceLT, reduceCtorEq, TFWiW, FR]; first | done | rfl) (by simp only [hget, ↓reduceIte, if_true, if_false, FR]; first | done | rfl) ?_ <;> first | exact rfl | (simp only [ZK, look, loadv, loadn, loadnm, load1, load1m, hget, ↓reduceIte, Nat.reduceEqDiff, Nat.reduceAdd, Nat.reduceMul, Nat.reduceLeDiff, Nat.reduceLT, reduceCtorEq, TFWiW, FR]; done) | skip)
set_option maxRecDepth 8000 in
theorem countN (b : Nat) (m : Int) (h1 : -9223372036854775808 ≤ m) (h2 : m ≤ 9223372036854775807) : ACt Tryd.prog 52 [pt b 0, iv .i64 m] [(b, rdN)] (fun r F' => r = iv .i64 0 ∧ F' = [(b, rdN)]) := by
  refine ACt.intro Tryd.func52 rfl (by kernel_rfl) (by simp [Tryd.ntmps52]) (fun cx => ?_)
  simp only [argE, Tryd.ntmps52, Tryd.results52]
  have w : IntKind.i64.wrap 0 = 0 := by decide
  have c1 : ACt Tryd.prog 74 [pt b 0] [(b, rdN)] (fun r F' => r = iv .u64 0 ∧ F' = [(b, rdN)]) := numN b
  by_cases h : m < 0
  · have k : decide (m < 0) = true := decide_eq_true h
    first | (have FRx := FR; clear FRx) | have FR := fr0
    have FA := Sm.mk (And.intro TFWiW k)
    repeat' first | (apply Sm.mk; refine Ysn ?_) | refine WP.seq fun K hK => ?_ | (apply Ob.mk; exact Yo) | refine And.intro (Ob.out ?_) ?_ | refine Y1WiW ?_ | refine Yun (c := c1) (r := ?_) | refine Yun (c := fail_e b true) (r := ?_) | refine YzWiW ?_ | (refine WP.cond rfl (fun hc => ?_) (fun hc => ?_) <;> (try simp only [ZC, reduceCtorEq, ZD] at hc) <;> (try exact absurd hc (by decide)) <;> (try (exfalso; omega))) | refine Rt.mk (And.intro (fun hg => Sm.out ?_) fun hg => Sm.out ?_) | (refine Nu.mk ?_; first | (fail_if_success have := nb1); intro nb1 | (fail_if_success have := nb2); intro nb2 | intro nbz) | (refine Fr.mk ?_; intro hfr; replace FR := And.intro hfr FR; clear hfr; refine Sm.out ?_) | refine Two.mk ?_ ?_ | (apply Yxc; exact Yx) | refine Cs.mk fun hcs => Sm.out ?_ | go_step | omega | (simp only [maxLen_eq]; omega) | exact trivial | refine Or.inr (Rt.mk (And.intro (fun hg => Sm.out ?_) fun hg => Sm.out ?_))
    (refine OutQ.upd (by simp only [resv, ZK, look, loadv, loadn, loadnm, load1, load1m, hget, ↓reduceIte, Nat.reduceEqDiff, Nat.reduceAdd, Nat.reduceMul, Nat.reduceLeDiff, Nat.reduceLT, reduceCtorEq, TFWiW, FR]) (by simp only [resv, resA, ZK, look, loadv, loadn, loadnm, load1, load1m, hget, ↓reduceIte, Nat.reduceEqDiff, Nat.reduceAdd, Nat.reduceMul, Nat.reduceLeDiff, Nat.reduceLT, reduceCtorEq, TFWiW, FR]; first | done | rfl) (by simp only [hget, ↓reduceIte, if_true, if_false, FR]; first | done | rfl) ?_ <;> first | exact rfl | (simp only [ZK, look, loadv, loadn, loadnm, load1, load1m, hget, ↓reduceIte, Nat.reduceEqDiff, Nat.reduceAdd, Nat.reduceMul, Nat.reduceLeDiff, Nat.reduceLT, reduceCtorEq, TFWiW, FR]; done) | skip)
  · have k : decide (m < 0) = false := decide_eq_false h
    have k2 : decide (0 > IntKind.u64.wrap m) = false := by rw [wrap_u64 (by omega) (by omega)]; simp; omega
    first | (have FRx := FR; clear FRx) | have FR := fr0
    have FA := Sm.mk (And.intro TFWiW (And.intro k (And.intro k2 w)))
    repeat' first | (apply Sm.mk; refine Ysn ?_) | refine WP.seq fun K hK => ?_ | (apply Ob.mk; exact Yo) | refine And.intro (Ob.out ?_) ?_ | refine Y1WiW ?_ | refine Yun (c := c1) (r := ?_) | refine Yun (c := fail_e b true) (r := ?_) | refine YzWiW ?_ | (refine WP.cond rfl (fun hc => ?_) (fun hc => ?_) <;> (try simp only [ZC, reduceCtorEq, ZD] at hc) <;> (try exact absurd hc (by decide)) <;> (try (exfalso; omega))) | refine Rt.mk (And.intro (fun hg => Sm.out ?_) fun hg => Sm.out ?_) | (refine Nu.mk ?_; first | (fail_if_success have := nb1); intro nb1 | (fail_if_success have := nb2); intro nb2 | intro nbz) | (refine Fr.mk ?_; intro hfr; replace FR := And.intro hfr FR; clear hfr; refine Sm.out ?_) | refine Two.mk ?_ ?_ | (apply Yxc; exact Yx) | refine Cs.mk fun hcs => Sm.out ?_ | go_step | omega | (simp only [maxLen_eq]; omega) | exact trivial | refine Or.inr (Rt.mk (And.intro (fun hg => Sm.out ?_) fun hg => Sm.out ?_))
    (refine OutQ.upd (by simp only [resv, ZK, look, loadv, loadn, loadnm, load1, load1m, hget, ↓reduceIte, Nat.reduceEqDiff, Nat.reduceAdd, Nat.reduceMul, Nat.reduceLeDiff, Nat.reduceLT, reduceCtorEq, TFWiW, FR]) (by simp only [resv, resA, ZK, look, loadv, loadn, loadnm, load1, load1m, hget, ↓reduceIte, Nat.reduceEqDiff, Nat.reduceAdd, Nat.reduceMul, Nat.reduceLeDiff, Nat.reduceLT, reduceCtorEq, TFWiW, FR]; first | done | rfl) (by simp only [hget, ↓reduceIte, if_true, if_false, FR]; first | done | rfl) ?_ <;> first | exact rfl | (simp only [ZK, look, loadv, loadn, loadnm, load1, load1m, hget, ↓reduceIte, Nat.reduceEqDiff, Nat.reduceAdd, Nat.reduceMul, Nat.reduceLeDiff, Nat.reduceLT, reduceCtorEq, TFWiW, FR]; done) | skip)
theorem nF_bd {zs q : List Int} {n : Nat} (hb : By zs) (h : nF zs = some (n, q)) : n < 18446744073709551616 ∧ By q ∧ q.length < zs.length ∧ q = zs.drop (zs.length - q.length) := by
  unfold nF at h
  cases hg : gF 0 zs with
  | none => rw [hg] at h; cases h
  | some p =>
    obtain ⟨s, n', q'⟩ := p
    rw [hg] at h; cases h
    obtain ⟨a, b, c, _, d⟩ := gF_bd hb hg
    exact ⟨a, b, c, d⟩
set_option maxRecDepth 8000 in
set_option maxHeartbeats 1000000 in
theorem countX (b : Nat) (zs : List Int) (m : Int) (hb : By zs) (hz : zs.length ≤ 10000) (h1 : -9223372036854775808 ≤ m) (h2 : m ≤ 9223372036854775807) :
    ACt Tryd.prog 52 [pt b 0, iv .i64 m] [(b, rd zs false)] (fun r F' => r = oE (iv .i64 0) (fun n : Nat => iv .i64 n) (cF m zs) ∧ F' = [(b, rO (cF m zs))]) := by
  have c1 := numX b zs hb hz
  unfold cF
  have w0 : IntKind.i64.wrap 0 = 0 := by decide
  cases hg : nF zs with
  | none =>
    rw [hg] at c1
    have c2 : ACt Tryd.prog 74 [pt b 0] [(b, rd zs false)] (fun r F' => r = iv .u64 0 ∧ F' = [(b, rdN)]) := c1
    show ACt Tryd.prog 52 [pt b 0, iv .i64 m] [(b, rd zs false)] (fun r F' => r = iv .i64 0 ∧ F' = [(b, rdN)])
    refine ACt.intro Tryd.func52 rfl (by kernel_rfl) (by simp [Tryd.ntmps52]) (fun cx => ?_)
    simp only [argE, Tryd.ntmps52, Tryd.results52]
    by_cases h : m < 0
    · have k : decide (m < 0) = true := decide_eq_true h
      first | (have FRx := FR; clear FRx) | have FR := fr0
      have FA := Sm.mk (And.intro TFWiW k)
      repeat' first | (apply Sm.mk; refine Ysn ?_) | refine WP.seq fun K hK => ?_ | (apply Ob.mk; exact Yo) | refine And.intro (Ob.out ?_) ?_ | refine Y1WiW ?_ | refine Yun (c := c2) (r := ?_) | refine Yun (c := fail_e b true) (r := ?_) | refine YzWiW ?_ | (refine WP.cond rfl (fun hc => ?_) (fun hc => ?_) <;> (try simp only [ZC, reduceCtorEq, ZD] at hc) <;> (try exact absurd hc (by decide)) <;> (try (exfalso; omega))) | refine Rt.mk (And.intro (fun hg => Sm.out ?_) fun hg => Sm.out ?_) | (refine Nu.mk ?_; first | (fail_if_success have := nb1); intro nb1 | (fail_if_success have := nb2); intro nb2 | intro nbz) | (refine Fr.mk ?_; intro hfr; replace FR := And.intro hfr FR; clear hfr; refine Sm.out ?_) | refine Two.mk ?_ ?_ | (apply Yxc; exact Yx) | refine Cs.mk fun hcs => Sm.out ?_ | go_step | omega | (simp only [maxLen_eq]; omega) | exact trivial | refine Or.inr (Rt.mk (And.intro (fun hg => Sm.out ?_) fun hg => Sm.out ?_))
      (refine OutQ.upd (by simp only [resv, ZK, look, loadv, loadn, loadnm, load1, load1m, hget, ↓reduceIte, Nat.reduceEqDiff, Nat.reduceAdd, Nat.reduceMul, Nat.reduceLeDiff, Nat.reduceLT, reduceCtorEq, TFWiW, FR]) (by simp only [resv, resA, ZK, look, loadv, loadn, loadnm, load1, load1m, hget, ↓reduceIte, Nat.reduceEqDiff, Nat.reduceAdd, Nat.reduceMul, Nat.reduceLeDiff, Nat.reduceLT, reduceCtorEq, TFWiW, FR]; first | done | rfl) (by simp only [hget, ↓reduceIte, if_true, if_false, FR]; first | done | rfl) ?_ <;> first | exact rfl | (simp only [ZK, look, loadv, loadn, loadnm, load1, load1m, hget, ↓reduceIte, Nat.reduceEqDiff, Nat.reduceAdd, Nat.reduceMul, Nat.reduceLeDiff, Nat.reduceLT, reduceCtorEq, TFWiW, FR]; done) | skip)
    · have k : decide (m < 0) = false := decide_eq_false h
      have k2 : decide (0 > IntKind.u64.wrap m) = false := by rw [wrap_u64 (by omega) (by omega)]; simp; omega
      first | (have FRx := FR; clear FRx) | have FR := fr0
      have FA := Sm.mk (And.intro TFWiW (And.intro k (And.intro k2 w0)))
      repeat' first | (apply Sm.mk; refine Ysn ?_) | refine WP.seq fun K hK => ?_ | (apply Ob.mk; exact Yo) | refine And.intro (Ob.out ?_) ?_ | refine Y1WiW ?_ | refine Yun (c := c2) (r := ?_) | refine Yun (c := fail_e b true) (r := ?_) | refine YzWiW ?_ | (refine WP.cond rfl (fun hc => ?_) (fun hc => ?_) <;> (try simp only [ZC, reduceCtorEq, ZD] at hc) <;> (try exact absurd hc (by decide)) <;> (try (exfalso; omega))) | refine Rt.mk (And.intro (fun hg => Sm.out ?_) fun hg => Sm.out ?_) | (refine Nu.mk ?_; first | (fail_if_success have := nb1); intro nb1 | (fail_if_success have := nb2); intro nb2 | intro nbz) | (refine Fr.mk ?_; intro hfr; replace FR := And.intro hfr FR; clear hfr; refine Sm.out ?_) | refine Two.mk ?_ ?_ | (apply Yxc; exact Yx) | refine Cs.mk fun hcs => Sm.out ?_ | go_step | omega | (simp only [maxLen_eq]; omega) | exact trivial | refine Or.inr (Rt.mk (And.intro (fun hg => Sm.out ?_) fun hg => Sm.out ?_))
      (refine OutQ.upd (by simp only [resv, ZK, look, loadv, loadn, loadnm, load1, load1m, hget, ↓reduceIte, Nat.reduceEqDiff, Nat.reduceAdd, Nat.reduceMul, Nat.reduceLeDiff, Nat.reduceLT, reduceCtorEq, TFWiW, FR]) (by simp only [resv, resA, ZK, look, loadv, loadn, loadnm, load1, load1m, hget, ↓reduceIte, Nat.reduceEqDiff, Nat.reduceAdd, Nat.reduceMul, Nat.reduceLeDiff, Nat.reduceLT, reduceCtorEq, TFWiW, FR]; first | done | rfl) (by simp only [hget, ↓reduceIte, if_true, if_false, FR]; first | done | rfl) ?_ <;> first | exact rfl | (simp only [ZK, look, loadv, loadn, loadnm, load1, load1m, hget, ↓reduceIte, Nat.reduceEqDiff, Nat.reduceAdd, Nat.reduceMul, Nat.reduceLeDiff, Nat.reduceLT, reduceCtorEq, TFWiW, FR]; done) | skip)
  | some p =>
    obtain ⟨n, q⟩ := p
    rw [hg] at c1
    obtain ⟨hn, _, _, _⟩ := nF_bd hb hg
    have c2 : ACt Tryd.prog 74 [pt b 0] [(b, rd zs false)] (fun r F' => r = nu n ∧ F' = [(b, rd q false)]) := c1
    simp only
    by_cases h : m < 0
    · have k : decide (m < 0) = true := decide_eq_true h
      rw [if_pos (.inl h)]
      show ACt Tryd.prog 52 [pt b 0, iv .i64 m] [(b, rd zs false)] (fun r F' => r = iv .i64 0 ∧ F' = [(b, rdN)])
      refine ACt.intro Tryd.func52 rfl (by kernel_rfl) (by simp [Tryd.ntmps52]) (fun cx => ?_)
      simp only [argE, Tryd.ntmps52, Tryd.results52]
      first | (have FRx := FR; clear FRx) | have FR := fr0
      have FA := Sm.mk (And.intro TFWiW k)
      repeat' first | (apply Sm.mk; refine Ysn ?_) | refine WP.seq fun K hK => ?_ | (apply Ob.mk; exact Yo) | refine And.intro (Ob.out ?_) ?_ | refine Y1WiW ?_ | refine Yun (c := c2) (r := ?_) | refine Yun (c := failR b q) (r := ?_) | refine YzWiW ?_ | (refine WP.cond rfl (fun hc => ?_) (fun hc => ?_) <;> (try simp only [ZC, reduceCtorEq, ZD] at hc) <;> (try exact absurd hc (by decide)) <;> (try (exfalso; omega))) | refine Rt.mk (And.intro (fun hg => Sm.out ?_) fun hg => Sm.out ?_) | (refine Nu.mk ?_; first | (fail_if_success have := nb1); intro nb1 | (fail_if_success have := nb2); intro nb2 | intro nbz) | (refine Fr.mk ?_; intro hfr; replace FR := And.intro hfr FR; clear hfr; refine Sm.out ?_) | refine Two.mk ?_ ?_ | (apply Yxc; exact Yx) | refine Cs.mk fun hcs => Sm.out ?_ | go_step | omega | (simp only [maxLen_eq]; omega) | exact trivial | refine Or.inr (Rt.mk (And.intro (fun hg => Sm.out ?_) fun hg => Sm.out ?_))
      (refine OutQ.upd (by simp only [resv, ZK, look, loadv, loadn, loadnm, load1, load1m, hget, ↓reduceIte, Nat.reduceEqDiff, Nat.reduceAdd, Nat.reduceMul, Nat.reduceLeDiff, Nat.reduceLT, reduceCtorEq, TFWiW, FR]) (by simp only [resv, resA, ZK, look, loadv, loadn, loadnm, load1, load1m, hget, ↓reduceIte, Nat.reduceEqDiff, Nat.reduceAdd, Nat.reduceMul, Nat.reduceLeDiff, Nat.reduceLT, reduceCtorEq, TFWiW, FR]; first | done | rfl) (by simp only [hget, ↓reduceIte, if_true, if_false, FR]; first | done | rfl) ?_ <;> first | exact rfl | (simp only [ZK, look, loadv, loadn, loadnm, load1, load1m, hget, ↓reduceIte, Nat.reduceEqDiff, Nat.reduceAdd, Nat.reduceMul, Nat.reduceLeDiff, Nat.reduceLT, reduceCtorEq, TFWiW, FR]; done) | skip)
    · have k : decide (m < 0) = false := decide_eq_false h
      have k2 : decide ((n : Int) > IntKind.u64.wrap m) = decide (m < (n : Int)) := by rw [wrap_u64 (by omega) (by omega)]
      by_cases h3 : m < (n : Int)
      · rw [if_pos (.inr h3)]
        rw [decide_eq_true h3] at k2
        show ACt Tryd.prog 52 [pt b 0, iv .i64 m] [(b, rd zs false)] (fun r F' => r = iv .i64 0 ∧ F' = [(b, rdN)])
        refine ACt.intro Tryd.func52 rfl (by kernel_rfl) (by simp [Tryd.ntmps52]) (fun cx => ?_)
        simp only [argE, Tryd.ntmps52, Tryd.results52]
        first | (have FRx := FR; clear FRx) | have FR := fr0
        have FA := Sm.mk (And.intro TFWiW (And.intro k k2))
        repeat' first | (apply Sm.mk; refine Ysn ?_) | refine WP.seq fun K hK => ?_ | (apply Ob.mk; exact Yo) | refine And.intro (Ob.out ?_) ?_ | refine Y1WiW ?_ | refine Yun (c := c2) (r := ?_) | refine Yun (c := failR b q) (r := ?_) | refine YzWiW ?_ | (refine WP.cond rfl (fun hc => ?_) (fun hc => ?_) <;> (try simp only [ZC, reduceCtorEq, ZD] at hc) <;> (try exact absurd hc (by decide)) <;> (try (exfalso; omega))) | refine Rt.mk (And.intro (fun hg => Sm.out ?_) fun hg => Sm.out ?_) | (refine Nu.mk ?_; first | (fail_if_success have := nb1); intro nb1 | (fail_if_success have := nb2); intro nb2 | intro nbz) | (refine Fr.mk ?_; intro hfr; replace FR := And.intro hfr FR; clear hfr; refine Sm.out ?_) | refine Two.mk ?_ ?_ | (apply Yxc; exact Yx) | refine Cs.mk fun hcs => Sm.out ?_ | go_step | omega | (simp only [maxLen_eq]; omega) | exact trivial | refine Or.inr (Rt.mk (And.intro (fun hg => Sm.out ?_) fun hg => Sm.out ?_))
        (refine OutQ.upd (by simp only [resv, ZK, look, loadv, loadn, loadnm, load1, load1m, hget, ↓reduceIte, Nat.reduceEqDiff, Nat.reduceAdd, Nat.reduceMul, Nat.reduceLeDiff, Nat.reduceLT, reduceCtorEq, TFWiW, FR]) (by simp only [resv, resA, ZK, look, loadv, loadn, loadnm, load1, load1m, hget, ↓reduceIte, Nat.reduceEqDiff, Nat.reduceAdd, Nat.reduceMul, Nat.reduceLeDiff, Nat.reduceLT, reduceCtorEq, TFWiW, FR]; first | done | rfl) (by simp only [hget, ↓reduceIte, if_true, if_false, FR]; first | done | rfl) ?_ <;> first | exact rfl | (simp only [ZK, look, loadv, loadn, loadnm, load1, load1m, hget, ↓reduceIte, Nat.reduceEqDiff, Nat.reduceAdd, Nat.reduceMul, Nat.reduceLeDiff, Nat.reduceLT, reduceCtorEq, TFWiW, FR]; done) | skip)
      · rw [if_neg (by omega)]
        rw [decide_eq_false h3] at k2
        have w : IntKind.i64.wrap (n : Int) = (n : Int) := wrap_i64_nat (by omega)
        show ACt Tryd.prog 52 [pt b 0, iv .i64 m] [(b, rd zs false)] (fun r F' => r = iv .i64 (n : Int) ∧ F' = [(b, rd q false)])
        refine ACt.intro Tryd.func52 rfl (by kernel_rfl) (by simp [Tryd.ntmps52]) (fun cx => ?_)
        simp only [argE, Tryd.ntmps52, Tryd.results52]
        first | (have FRx := FR; clear FRx) | have FR := fr0
        have FA := Sm.mk (And.intro TFWiW (And.intro k (And.intro k2 w)))
        repeat' first | (apply Sm.mk; refine Ysn ?_) | refine WP.seq fun K hK => ?_ | (apply Ob.mk; exact Yo) | refine And.intro (Ob.out ?_) ?_ | refine Y1WiW ?_ | refine Yun (c := c2) (r := ?_) | refine YzWiW ?_ | (refine WP.cond rfl (fun hc => ?_) (fun hc => ?_) <;> (try simp only [ZC, reduceCtorEq, ZD] at hc) <;> (try exact absurd hc (by decide)) <;> (try (exfalso; omega))) | refine Rt.mk (And.intro (fun hg => Sm.out ?_) fun hg => Sm.out ?_) | (refine Nu.mk ?_; first | (fail_if_success have := nb1); intro nb1 | (fail_if_success have := nb2); intro nb2 | intro nbz) | (refine Fr.mk ?_; intro hfr; replace FR := And.intro hfr FR; clear hfr; refine Sm.out ?_) | refine Two.mk ?_ ?_ | (apply Yxc; exact Yx) | refine Cs.mk fun hcs => Sm.out ?_ | go_step | omega | (simp only [maxLen_eq]; omega) | exact trivial | refine Or.inr (Rt.mk (And.intro (fun hg => Sm.out ?_) fun hg => Sm.out ?_))
        (refine OutQ.upd (by simp only [resv, ZK, look, loadv, loadn, loadnm, load1, load1m, hget, ↓reduceIte, Nat.reduceEqDiff, Nat.reduceAdd, Nat.reduceMul, Nat.reduceLeDiff, Nat.reduceLT, reduceCtorEq, TFWiW, FR]) (by simp only [resv, resA, ZK, look, loadv, loadn, loadnm, load1, load1m, hget, ↓reduceIte, Nat.reduceEqDiff, Nat.reduceAdd, Nat.reduceMul, Nat.reduceLeDiff, Nat.reduceLT, reduceCtorEq, TFWiW, FR]; first | done | rfl) (by simp only [hget, ↓reduceIte, if_true, if_false, FR]; first | done | rfl) ?_ <;> first | exact rfl | (simp only [ZK, look, loadv, loadn, loadnm, load1, load1m, hget, ↓reduceIte, Nat.reduceEqDiff, Nat.reduceAdd, Nat.reduceMul, Nat.reduceLeDiff, Nat.reduceLT, reduceCtorEq, TFWiW, FR]; done) | skip)
abbrev eS : AV := .lit (.string ⟨#[]⟩)
set_option maxRecDepth 8000 in
theorem textN (b : Nat) (m : Int) (h1 : -9223372036854775808 ≤ m) (h2 : m ≤ 9223372036854775807) : ACt Tryd.prog 50 [pt b 0, iv .i64 m] [(b, rdN)] (fun r F' => r = eS ∧ F' = [(b, rdN)]) := by
  refine ACt.intro Tryd.func50 rfl (by kernel_rfl) (by simp [Tryd.ntmps50]) (fun cx => ?_)
  simp only [argE, Tryd.ntmps50, Tryd.results50]
  have w : IntKind.u64.wrap 0 = ((0 : Nat) : Int) := by decide
  first | (have FRx := FR; clear FRx) | have FR := fr0
  have FA := Sm.mk (And.intro TFWiW w)
  repeat' first | (apply Sm.mk; refine Ysn ?_) | refine WP.seq fun K hK => ?_ | (apply Ob.mk; exact Yo) | refine And.intro (Ob.out ?_) ?_ | refine Y1WiW ?_ | refine Yun (c := countN b m h1 h2) (r := ?_) | refine Yun (c := takeN b 0) (r := ?_) | refine YzWiW ?_ | (refine WP.cond rfl (fun hc => ?_) (fun hc => ?_) <;> (try simp only [ZC, reduceCtorEq, ZD] at hc) <;> (try exact absurd hc (by decide)) <;> (try (exfalso; omega))) | refine Rt.mk (And.intro (fun hg => Sm.out ?_) fun hg => Sm.out ?_) | (refine Nu.mk ?_; first | (fail_if_success have := nb1); intro nb1 | (fail_if_success have := nb2); intro nb2 | intro nbz) | (refine Fr.mk ?_; intro hfr; replace FR := And.intro hfr FR; clear hfr; refine Sm.out ?_) | refine Two.mk ?_ ?_ | (apply Yxc; exact Yx) | refine Cs.mk fun hcs => Sm.out ?_ | go_step | omega | (simp only [maxLen_eq]; omega) | exact trivial | refine Or.inr (Rt.mk (And.intro (fun hg => Sm.out ?_) fun hg => Sm.out ?_))
  (refine OutQ.upd (by simp only [resv, ZK, look, loadv, loadn, loadnm, load1, load1m, hget, ↓reduceIte, Nat.reduceEqDiff, Nat.reduceAdd, Nat.reduceMul, Nat.reduceLeDiff, Nat.reduceLT, reduceCtorEq, TFWiW, FR]) (by simp only [resv, resA, ZK, look, loadv, loadn, loadnm, load1, load1m, hget, ↓reduceIte, Nat.reduceEqDiff, Nat.reduceAdd, Nat.reduceMul, Nat.reduceLeDiff, Nat.reduceLT, reduceCtorEq, TFWiW, FR]; first | done | rfl) (by simp only [hget, ↓reduceIte, if_true, if_false, FR]; first | done | rfl) ?_ <;> first | exact rfl | (simp only [ZK, look, loadv, loadn, loadnm, load1, load1m, hget, ↓reduceIte, Nat.reduceEqDiff, Nat.reduceAdd, Nat.reduceMul, Nat.reduceLeDiff, Nat.reduceLT, reduceCtorEq, TFWiW, FR]; done) | skip)
theorem cF_bd {zs q : List Int} {m : Int} {n : Nat} (hb : By zs) (h : cF m zs = some (n, q)) : (n : Int) ≤ m ∧ n < 18446744073709551616 ∧ By q ∧ q.length < zs.length ∧ q = zs.drop (zs.length - q.length) := by
  unfold cF at h
  cases hg : nF zs with
  | none => rw [hg] at h; cases h
  | some p =>
    obtain ⟨n', q'⟩ := p
    rw [hg] at h
    simp only at h
    split at h
    · cases h
    · cases h
      obtain ⟨a, b, c, d⟩ := nF_bd hb hg
      exact ⟨by omega, a, b, c, d⟩
set_option maxRecDepth 8000 in
set_option maxHeartbeats 1000000 in
theorem textX (b : Nat) (zs : List Int) (m : Int) (hb : By zs) (hz : zs.length ≤ 10000) (h1 : -9223372036854775808 ≤ m) (h2 : m ≤ 9223372036854775807) :
    ACt Tryd.prog 50 [pt b 0, iv .i64 m] [(b, rd zs false)] (fun r F' => r = oE eS (fun l => .lit (.string (bstr l))) (tF m zs) ∧ F' = [(b, rO (tF m zs))]) := by
  have c1 := countX b zs m hb hz h1 h2
  have w0 : IntKind.u64.wrap 0 = ((0 : Nat) : Int) := by decide
  unfold tF
  cases hg : cF m zs with
  | none =>
    rw [hg] at c1
    have c2 : ACt Tryd.prog 52 [pt b 0, iv .i64 m] [(b, rd zs false)] (fun r F' => r = iv .i64 0 ∧ F' = [(b, rdN)]) := c1
    show ACt Tryd.prog 50 [pt b 0, iv .i64 m] [(b, rd zs false)] (fun r F' => r = eS ∧ F' = [(b, rdN)])
    refine ACt.intro Tryd.func50 rfl (by kernel_rfl) (by simp [Tryd.ntmps50]) (fun cx => ?_)
    simp only [argE, Tryd.ntmps50, Tryd.results50]
    first | (have FRx := FR; clear FRx) | have FR := fr0
    have FA := Sm.mk (And.intro TFWiW w0)
    repeat' first | (apply Sm.mk; refine Ysn ?_) | refine WP.seq fun K hK => ?_ | (apply Ob.mk; exact Yo) | refine And.intro (Ob.out ?_) ?_ | refine Y1WiW ?_ | refine Yun (c := c2) (r := ?_) | refine Yun (c := takeN b 0) (r := ?_) | refine YzWiW ?_ | (refine WP.cond rfl (fun hc => ?_) (fun hc => ?_) <;> (try simp only [ZC, reduceCtorEq, ZD] at hc) <;> (try exact absurd hc (by decide)) <;> (try (exfalso; omega))) | refine Rt.mk (And.intro (fun hg => Sm.out ?_) fun hg => Sm.out ?_) | (refine Nu.mk ?_; first | (fail_if_success have := nb1); intro nb1 | (fail_if_success have := nb2); intro nb2 | intro nbz) | (refine Fr.mk ?_; intro hfr; replace FR := And.intro hfr FR; clear hfr; refine Sm.out ?_) | refine Two.mk ?_ ?_ | (apply Yxc; exact Yx) | refine Cs.mk fun hcs => Sm.out ?_ | go_step | omega | (simp only [maxLen_eq]; omega) | exact trivial | refine Or.inr (Rt.mk (And.intro (fun hg => Sm.out ?_) fun hg => Sm.out ?_))
    (refine OutQ.upd (by simp only [resv, ZK, look, loadv, loadn, loadnm, load1, load1m, hget, ↓reduceIte, Nat.reduceEqDiff, Nat.reduceAdd, Nat.reduceMul, Nat.reduceLeDiff, Nat.reduceLT, reduceCtorEq, TFWiW, FR]) (by simp only [resv, resA, ZK, look, loadv, loadn, loadnm, load1, load1m, hget, ↓reduceIte, Nat.reduceEqDiff, Nat.reduceAdd, Nat.reduceMul, Nat.reduceLeDiff, Nat.reduceLT, reduceCtorEq, TFWiW, FR]; first | done | rfl) (by simp only [hget, ↓reduceIte, if_true, if_false, FR]; first | done | rfl) ?_ <;> first | exact rfl | (simp only [ZK, look, loadv, loadn, loadnm, load1, load1m, hget, ↓reduceIte, Nat.reduceEqDiff, Nat.reduceAdd, Nat.reduceMul, Nat.reduceLeDiff, Nat.reduceLT, reduceCtorEq, TFWiW, FR]; done) | skip)
  | some p =>
    obtain ⟨n, q⟩ := p
    rw [hg] at c1
    obtain ⟨hm, hn, _, hq, _⟩ := cF_bd hb hg
    have c2 : ACt Tryd.prog 52 [pt b 0, iv .i64 m] [(b, rd zs false)] (fun r F' => r = iv .i64 (n : Int) ∧ F' = [(b, rd q false)]) := c1
    have w1 : IntKind.u64.wrap (n : Int) = (n : Int) := wrap_u64_nat (by omega)
    simp only
    by_cases h : q.length < n
    · rw [if_pos h]
      have c3 := takeL b q n h (by omega)
      show ACt Tryd.prog 50 [pt b 0, iv .i64 m] [(b, rd zs false)] (fun r F' => r = eS ∧ F' = [(b, rdN)])
      refine ACt.intro Tryd.func50 rfl (by kernel_rfl) (by simp [Tryd.ntmps50]) (fun cx => ?_)
      simp only [argE, Tryd.ntmps50, Tryd.results50]
      first | (have FRx := FR; clear FRx) | have FR := fr0
      have FA := Sm.mk (And.intro TFWiW w1)
      repeat' first | (apply Sm.mk; refine Ysn ?_) | refine WP.seq fun K hK => ?_ | (apply Ob.mk; exact Yo) | refine And.intro (Ob.out ?_) ?_ | refine Y1WiW ?_ | refine Yun (c := c2) (r := ?_) | refine Yun (c := c3) (r := ?_) | refine YzWiW ?_ | (refine WP.cond rfl (fun hc => ?_) (fun hc => ?_) <;> (try simp only [ZC, reduceCtorEq, ZD] at hc) <;> (try exact absurd hc (by decide)) <;> (try (exfalso; omega))) | refine Rt.mk (And.intro (fun hg => Sm.out ?_) fun hg => Sm.out ?_) | (refine Nu.mk ?_; first | (fail_if_success have := nb1); intro nb1 | (fail_if_success have := nb2); intro nb2 | intro nbz) | (refine Fr.mk ?_; intro hfr; replace FR := And.intro hfr FR; clear hfr; refine Sm.out ?_) | refine Two.mk ?_ ?_ | (apply Yxc; exact Yx) | refine Cs.mk fun hcs => Sm.out ?_ | go_step | omega | (simp only [maxLen_eq]; omega) | exact trivial | refine Or.inr (Rt.mk (And.intro (fun hg => Sm.out ?_) fun hg => Sm.out ?_))
      (refine OutQ.upd (by simp only [resv, ZK, look, loadv, loadn, loadnm, load1, load1m, hget, ↓reduceIte, Nat.reduceEqDiff, Nat.reduceAdd, Nat.reduceMul, Nat.reduceLeDiff, Nat.reduceLT, reduceCtorEq, TFWiW, FR]) (by simp only [resv, resA, ZK, look, loadv, loadn, loadnm, load1, load1m, hget, ↓reduceIte, Nat.reduceEqDiff, Nat.reduceAdd, Nat.reduceMul, Nat.reduceLeDiff, Nat.reduceLT, reduceCtorEq, TFWiW, FR]; first | done | rfl) (by simp only [hget, ↓reduceIte, if_true, if_false, FR]; first | done | rfl) ?_ <;> first | exact rfl | (simp only [ZK, look, loadv, loadn, loadnm, load1, load1m, hget, ↓reduceIte, Nat.reduceEqDiff, Nat.reduceAdd, Nat.reduceMul, Nat.reduceLeDiff, Nat.reduceLT, reduceCtorEq, TFWiW, FR]; done) | skip)
    · rw [if_neg h]
      have c3 := takeR b q n (by omega) (by omega)
      obtain ⟨L, hL⟩ : ∃ L, L = q.take n := ⟨_, rfl⟩
      obtain ⟨R, hR⟩ : ∃ R, R = q.drop n := ⟨_, rfl⟩
      rw [← hL, ← hR] at c3 ⊢
      show ACt Tryd.prog 50 [pt b 0, iv .i64 m] [(b, rd zs false)] (fun r F' => r = .lit (.string (bstr L)) ∧ F' = [(b, rd R false)])
      refine ACt.intro Tryd.func50 rfl (by kernel_rfl) (by simp [Tryd.ntmps50]) (fun cx => ?_)
      simp only [argE, Tryd.ntmps50, Tryd.results50]
      first | (have FRx := FR; clear FRx) | have FR := fr0
      have FA := Sm.mk (And.intro TFWiW w1)
      repeat' first | (apply Sm.mk; refine Ysn ?_) | refine WP.seq fun K hK => ?_ | (apply Ob.mk; exact Yo) | refine And.intro (Ob.out ?_) ?_ | refine Y1WiW ?_ | refine Yun (c := c2) (r := ?_) | refine Yun (c := c3) (r := ?_) | refine YzWiW ?_ | (refine WP.cond rfl (fun hc => ?_) (fun hc => ?_) <;> (try simp only [ZC, reduceCtorEq, ZD] at hc) <;> (try exact absurd hc (by decide)) <;> (try (exfalso; omega))) | refine Rt.mk (And.intro (fun hg => Sm.out ?_) fun hg => Sm.out ?_) | (refine Nu.mk ?_; first | (fail_if_success have := nb1); intro nb1 | (fail_if_success have := nb2); intro nb2 | intro nbz) | (refine Fr.mk ?_; intro hfr; replace FR := And.intro hfr FR; clear hfr; refine Sm.out ?_) | refine Two.mk ?_ ?_ | (apply Yxc; exact Yx) | refine Cs.mk fun hcs => Sm.out ?_ | go_step | omega | (simp only [maxLen_eq]; omega) | exact trivial | refine Or.inr (Rt.mk (And.intro (fun hg => Sm.out ?_) fun hg => Sm.out ?_))
      (refine OutQ.upd (by simp only [resv, ZK, look, loadv, loadn, loadnm, load1, load1m, hget, ↓reduceIte, Nat.reduceEqDiff, Nat.reduceAdd, Nat.reduceMul, Nat.reduceLeDiff, Nat.reduceLT, reduceCtorEq, TFWiW, FR]) (by simp only [resv, resA, ZK, look, loadv, loadn, loadnm, load1, load1m, hget, ↓reduceIte, Nat.reduceEqDiff, Nat.reduceAdd, Nat.reduceMul, Nat.reduceLeDiff, Nat.reduceLT, reduceCtorEq, TFWiW, FR]; first | done | rfl) (by simp only [hget, ↓reduceIte, if_true, if_false, FR]; first | done | rfl) ?_ <;> first | exact rfl | (simp only [ZK, look, loadv, loadn, loadnm, load1, load1m, hget, ↓reduceIte, Nat.reduceEqDiff, Nat.reduceAdd, Nat.reduceMul, Nat.reduceLeDiff, Nat.reduceLT, reduceCtorEq, TFWiW, FR]; done) | skip)
theorem valL_byteL (n : Nat) : ∀ k, valL (byteL n k) = n % 256 ^ k
  | 0 => by simp [byteL, valL, Nat.mod_one]
  | k + 1 => by
    rw [byteL, valL, byteL_len, valL_byteL n k, Int.toNat_natCast, Nat.mod_pow_succ, Nat.add_comm, Nat.mul_comm]
theorem by_byteL (n : Nat) : ∀ k, By (byteL n k)
  | 0 => fun x hx => by cases hx
  | k + 1 => fun x hx => by
    rcases List.mem_cons.1 hx with rfl | hx
    · omega
    · exact by_byteL n k x hx
theorem By.app {a b : List Int} (ha : By a) (hb : By b) : By (a ++ b) := fun x hx => by
  rcases List.mem_append.1 hx with h | h
  · exact ha x h
  · exact hb x h
theorem by_putL (n : Nat) (hn : n < 18446744073709551616) : By (putL 0 n) := by
  obtain ⟨k, _, hk, h, _⟩ := putL0 n hn
  rw [h]
  intro x hx
  rcases List.mem_cons.1 hx with rfl | hx
  · omega
  · exact by_byteL n k x hx
theorem nF_put (n : Nat) (rest : List Int) (hn : n < 18446744073709551616) : nF (putL 0 n ++ rest) = some (n, rest) := by
  obtain ⟨k, hk, hk9, h, _⟩ := putL0 n hn
  have a := and16 k hk9
  have hlt : n < 256 ^ k := size_le.1 (Nat.le_of_eq hk.symm)
  have hlb := byteL_len n k
  rw [h]
  unfold nF
  rw [List.cons_append]
  simp only [gF, a.2.2.2.2.2, a.2.2.2.2.1, Int.toNat_natCast]
  have hz : ¬ (0 < k ∧ (byteL n k ++ rest).getD 0 0 = 0) := by
    rintro ⟨h0, h1⟩
    have e : (byteL n k ++ rest).getD 0 0 = ((n / 256 ^ (k - 1 - 0) % 256 : Nat) : Int) := by
      rw [← byteL_at n k 0 h0]
      simp only [List.getD_eq_getElem?_getD]
      rw [List.getElem?_append_left (by omega)]
    have hge : 256 ^ (k - 1) ≤ n := by
      apply Classical.byContradiction; intro hc
      have := size_le.2 (show n < 256 ^ (k - 1) by omega)
      omega
    have hne := byteL_hd (k := k - 1) (by rw [show k - 1 + 1 = k by omega]; exact hlt) hge
    rw [e, Nat.sub_zero] at h1
    exact hne (by exact_mod_cast h1)
  rw [if_neg]
  · simp only [Option.map_some, List.take_left' hlb, List.drop_left' hlb, valL_byteL, Nat.mod_eq_of_lt hlt]
  · rintro (h1 | h1 | h1)
    · omega
    · rw [List.length_append] at h1; omega
    · exact hz h1
theorem nF_canon {zs r : List Int} {n : Nat} (hb : By zs) (h : nF zs = some (n, r)) : zs = putL 0 n ++ r := by
  have hbd := nF_bd hb h
  cases zs with
  | nil => cases h
  | cons c t =>
    have hc := hb c (List.mem_cons_self ..)
    obtain ⟨m, rfl⟩ := Int.eq_ofNat_of_zero_le hc.1
    obtain ⟨_, _, _, _, _, _, _, a1, a2⟩ := and256 m (by omega)
    unfold nF at h
    simp only [gF, a1, a2, Int.toNat_natCast] at h
    split at h
    · cases h
    rename_i hg
    simp only [Option.map_some, Option.some.injEq, Prod.mk.injEq] at h
    obtain ⟨rfl, rfl⟩ := h
    have hbt := hb.tail.take m
    have hlen : (t.take m).length = m := by simp; omega
    have hs := valL_size hbt (by
      by_cases h0 : m = 0
      · subst h0; left; rfl
      · right
        intro h1
        have : (t.take m).getD 0 0 = t.getD 0 0 := by
          simp only [List.getD_eq_getElem?_getD]
          rw [List.getElem?_take_of_lt (by omega)]
        rw [this] at h1
        exact hg (.inr (.inr ⟨by omega, h1⟩)))
    have hv := byteL_valL hbt
    rw [hlen] at hs hv
    unfold putL
    rw [← hs, hv, or0 m (by omega), List.cons_append, List.take_append_drop]
end Go.Proofs.YtaffbklkjjmmdaaDoor.Wi
