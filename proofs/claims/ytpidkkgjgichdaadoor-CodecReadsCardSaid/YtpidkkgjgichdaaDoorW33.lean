/-
  The walks and the laws that the statement leans on, part 33.
-/
import Derived.Test.YtpidkkgjgichdaaDoorW10
import Derived.Test.YtpidkkgjgichdaaDoorW30
import Derived.Test.YtpidkkgjgichdaaDoorW31
import Derived.Test.YtpidkkgjgichdaaDoorW32
namespace Go.Proofs.YtpidkkgjgichdaaDoor
open Go Wi
set_option linter.unusedVariables false
set_option linter.unusedSimpArgs false
set_option linter.defProp false
def TFCoK :=
  And.intro (And.intro (And.intro (And.intro (And.intro (And.intro tyc0 (And.intro tyc2 zmb2)) (And.intro tyc3 (And.intro zmb3 tyc4))) (And.intro (And.intro zmb4 (And.intro tyc5 zmb5)) (And.intro tyc9 (And.intro zmb9 tyc22)))) (And.intro (And.intro (And.intro zmb22 (And.intro tyc24 foff24_0)) (And.intro fpart24_0 (And.intro foff24_1 fpart24_1))) (And.intro (And.intro fe24 (And.intro zmb24 bldT24)) (And.intro (And.intro tyc26 foff26_0) (And.intro fpart26_0 foff26_1))))) (And.intro (And.intro (And.intro (And.intro fpart26_1 (And.intro foff26_2 fpart26_2)) (And.intro foff26_3 (And.intro fpart26_3 foff26_4))) (And.intro (And.intro fpart26_4 (And.intro fe26 zmb26)) (And.intro bldT26 (And.intro tyc28 foff28_0)))) (And.intro (And.intro (And.intro fpart28_0 (And.intro foff28_1 fpart28_1)) (And.intro foff28_2 (And.intro fpart28_2 foff28_3))) (And.intro (And.intro fpart28_3 (And.intro foff28_4 fpart28_4)) (And.intro (And.intro fe28 zmb28) (And.intro bldT28 tyc30)))))) (And.intro (And.intro (And.intro (And.intro (And.intro foff30_0 (And.intro fpart30_0 foff30_1)) (And.intro fpart30_1 (And.intro foff30_2 fpart30_2))) (And.intro (And.intro foff30_3 (And.intro fpart30_3 foff30_4)) (And.intro fpart30_4 (And.intro foff30_5 fpart30_5)))) (And.intro (And.intro (And.intro zmb30 (And.intro bldT30 tyc33)) (And.intro elt33 (And.intro mkz33 apT33))) (And.intro (And.intro elk33 (And.intro zmb33 tyc36)) (And.intro (And.intro zmb36 tyc52) (And.intro mth52_52 mth52_56))))) (And.intro (And.intro (And.intro (And.intro mth52_53 (And.intro con52 zmb52)) (And.intro tyc82 (And.intro foff82_0 fpart82_0))) (And.intro (And.intro foff82_1 (And.intro fpart82_1 zmb82)) (And.intro bldT82 (And.intro Tryd.underlying0 Tryd.underlying2)))) (And.intro (And.intro (And.intro Tryd.underlying3 (And.intro Tryd.underlying4 Tryd.underlying5)) (And.intro Tryd.underlying9 (And.intro Tryd.underlying22 Tryd.underlying24))) (And.intro (And.intro Tryd.underlying26 (And.intro Tryd.underlying28 Tryd.underlying30)) (And.intro (And.intro Tryd.underlying33 Tryd.underlying36) (And.intro Tryd.underlying52 Tryd.underlying82))))))
theorem Y1CoK {G R : Prop} (r : R) (h : R → G := by intro r; first | (apply WP.region; exact rvc_sound _ _ (Sm.out r)) | exact WP.drawK rfl mixed (by decide +kernel) (Sm.out r) | (apply WP.block; exact r) | (apply WP.skip; exact Yq r) | (apply WP.exit; exact Yq r) | (apply WP.ret; exact Sm.out r) | exact WP.cond rfl (fun _ => r) (fun hg => absurd hg (by decide)) | exact WP.cond rfl (fun hg => absurd hg (by decide)) (fun _ => r) | exact Rt.mk (And.intro (fun _ => Sm.out r) fun hg => absurd hg (by decide)) | exact Rt.mk (And.intro (fun hg => absurd hg (by decide)) fun _ => Sm.out r)) : G := h r
theorem YzCoK {G R : Prop} (r : R) (h : R → G := by intro r; first | (apply ExG.no; exact Sm.out r) | (apply Or.inl; apply ExG.no; exact Sm.out r) | exact Or.inl (And.intro (fun hg => absurd hg (by decide)) (ExG.no (Sm.out r)))) : G := h r
theorem new_cr (zs : List Int) : ACt Tryd.prog 29 [.slz .u8 zs] [] (NewC 82 [.slz .u8 zs, bv false]) := by
  refine ACt.intro Tryd.func29 rfl (by kernel_rfl) (by simp [Tryd.ntmps29]) (fun cx => ?_)
  simp only [argE, Tryd.ntmps29, Tryd.results29]
  first | (have FRx := FR; clear FRx) | have FR := fr0S
  have FA := Sm.mk (TFCoK)
  repeat' first | (apply Sm.mk; refine Ys ?_) | refine WP.seq fun K hK => ?_ | (apply Ob.mk; exact Yo) | refine And.intro (Ob.out ?_) ?_ | refine Y1CoK ?_ | refine YzCoK ?_ | (refine WP.cond rfl (fun hc => ?_) (fun hc => ?_) <;> (try simp only [ZC, reduceCtorEq, ZD] at hc) <;> (try exact absurd hc (by decide)) <;> (try (exfalso; omega))) | refine Rt.mk (And.intro (fun hg => Sm.out ?_) fun hg => Sm.out ?_) | (refine Nu.mk ?_; first | (fail_if_success have := nb1); intro nb1 | (fail_if_success have := nb2); intro nb2 | (fail_if_success have := nb3); intro nb3 | (fail_if_success have := nb4); intro nb4 | (fail_if_success have := nb5); intro nb5 | intro nbz) | (apply Yfr; refine Yf FR fun hFRb FR => ?_) | refine Two.mk ?_ ?_ | (apply Yxc; exact Yx) | refine Cs.mk fun hcs => Sm.out ?_ | go_step | omega | (simp only [maxLen_eq]; omega) | exact trivial | refine Or.inr (Rt.mk (And.intro (fun hg => Sm.out ?_) fun hg => Sm.out ?_))
  (refine OutQ.newC (by simp only [resv, ZK, look, loadv, loadn, loadnm, load1, load1m, hget, ↓reduceIte, Nat.reduceEqDiff, Nat.reduceAdd, Nat.reduceMul, Nat.reduceLeDiff, Nat.reduceLT, reduceCtorEq, TFCoK, FR.out]) (by simp only [resv, resA, ZK, look, loadv, loadn, loadnm, load1, load1m, hget, ↓reduceIte, Nat.reduceEqDiff, Nat.reduceAdd, Nat.reduceMul, Nat.reduceLeDiff, Nat.reduceLT, reduceCtorEq, TFCoK, FR.out]; first | done | rfl) (by simp only [hget, ↓reduceIte, if_true, if_false, FR.out]; first | done | rfl) ?_ ?_ <;> first | exact rfl | (simp only [ZK, look, loadv, loadn, loadnm, load1, load1m, hget, ↓reduceIte, Nat.reduceEqDiff, Nat.reduceAdd, Nat.reduceMul, Nat.reduceLeDiff, Nat.reduceLT, reduceCtorEq, TFCoK, FR.out]; done) | skip)
set_option maxRecDepth 8000 in
set_option maxHeartbeats 2000000 in
theorem cread_0 (n0 n1 : Nat) (FZ AZ Z : List Int) (M1 : MB) (E : Int) (gg : Bool)
    (c1 : ∀ b, ACt Tryd.prog 30 [pt b 0, iv .i64 9] [(b, rd Z false)] (fun x F => x = iv .i64 0 ∧ F = [(b, M1)]))
    (cE : ∀ b, ACt Tryd.prog 36 [pt b 0] [(b, M1)] (fun x F => x = iv .i64 E ∧ F = [(b, M1)]))
    (cG : ACt Tryd.prog 12 [ov ⟨0, ⟨#[]⟩, 0, 0, 0, k0, s0⟩] [(0, .ro .u8 FZ 256 n0), (1, .ro .u8 AZ 32 n1)] (fun x F => x = bv gg ∧ F = [(0, .ro .u8 FZ 256 n0), (1, .ro .u8 AZ 32 n1)])) :
    ACt Tryd.prog 13 [.slz .u8 Z] [(0, .ro .u8 FZ 256 n0), (1, .ro .u8 AZ 32 n1)] (fun x F => x = .tup [ov (if ((E == 0) && gg) = true then ⟨0, ⟨#[]⟩, 0, 0, 0, k0, s0⟩ else o0), iv .i64 (if ((E == 0) && gg) = true then 0 else 10)] ∧ F = [(0, .ro .u8 FZ 256 n0), (1, .ro .u8 AZ 32 n1)]) := by
  have h0 := neI E 0
  obtain ⟨e0, he⟩ : ∃ x, (E == 0) = x := ⟨_, rfl⟩
  rw [he] at h0 ⊢
  clear he
  have y1 : ((0 : Int) == 1) = false := rfl
  have y6 : ((0 : Int) == 6) = false := rfl
  have y7 : ((0 : Int) == 7) = false := rfl
  have y2 : ((0 : Int) == 2) = false := rfl
  have y4 : ((0 : Int) == 4) = false := rfl
  have y5 : ((0 : Int) == 5) = false := rfl
  have y3 : ((0 : Int) == 3) = false := rfl
  refine ACt.intro Tryd.func13 rfl (by kernel_rfl) (by simp [Tryd.ntmps13]) (fun cx => ?_)
  simp only [argE, Tryd.ntmps13, Tryd.results13]
  have FR : Sm (¬ ((1 : Nat) = 0)) := Sm.mk Nat.one_ne_zero
  (refine WP.nd fun hnd => ?_; simp only [ndF, fresh_cons, fresh_nil, and_true, ne_eq] at hnd; replace FR := Sm.mk (And.intro hnd FR.out); clear hnd)
  first | (have FRx := FR; clear FRx) | have FR := fr0S
  have FA := Sm.mk (And.intro TFCoK (And.intro h0 (And.intro y1 (And.intro y6 (And.intro y7 (And.intro y2 (And.intro y4 (And.intro y5 y3))))))))
  repeat' first | (apply Sm.mk; refine Ys ?_) | refine WP.seq fun K hK => ?_ | (apply Ob.mk; exact Yo) | refine And.intro (Ob.out ?_) ?_ | refine Y1CoK ?_ | refine Yv (c := new_cr Z) (r := ?_) | refine Yc (c := new_cr Z) (r := ?_) | refine Yw1 (c := c1 nb2) (r := ?_) | refine Yw1 (c := cE nb2) (r := ?_) | refine Yl2 (c := cG) (r := ?_) | refine YzCoK ?_ | (refine WP.cond rfl (fun hc => ?_) (fun hc => ?_) <;> (try simp only [ZC, reduceCtorEq, ZD] at hc) <;> (try exact absurd hc (by decide)) <;> (try (exfalso; omega))) | refine Rt.mk (And.intro (fun hg => Sm.out ?_) fun hg => Sm.out ?_) | (refine Nu.mk ?_; first | (fail_if_success have := nb1); intro nb1 | (fail_if_success have := nb2); intro nb2 | (fail_if_success have := nb3); intro nb3 | (fail_if_success have := nb4); intro nb4 | (fail_if_success have := nb5); intro nb5 | intro nbz) | (apply Yfr; refine Yf FR fun hFRb FR => ?_) | refine Two.mk ?_ ?_ | (apply Yxc; exact Yx) | refine Cs.mk fun hcs => Sm.out ?_ | go_step | omega | (simp only [maxLen_eq]; omega) | exact trivial | refine Or.inr (Rt.mk (And.intro (fun hg => Sm.out ?_) fun hg => Sm.out ?_))
  · have e : (e0 && gg) = false := by rcases hc with h | h <;> simp [h]
    simp only [e, Bool.false_eq_true, if_false]
    (refine OutQ.drop _ _ (perm2 (by simp only [hget, hdel, ↓reduceIte, if_true, if_false, FR.out]; first | done | rfl) (by simp only [hget, hdel, ↓reduceIte, if_true, if_false, FR.out]; first | done | rfl)) (by simp only [resv, ZK, look, loadv, loadn, loadnm, load1, load1m, hget, ↓reduceIte, Nat.reduceEqDiff, Nat.reduceAdd, Nat.reduceMul, Nat.reduceLeDiff, Nat.reduceLT, reduceCtorEq, TFCoK, FR.out]) ⟨(by simp only [resv, resA, ZK, look, loadv, loadn, loadnm, load1, load1m, hget, ↓reduceIte, Nat.reduceEqDiff, Nat.reduceAdd, Nat.reduceMul, Nat.reduceLeDiff, Nat.reduceLT, reduceCtorEq, TFCoK, FR.out]; first | done | rfl), rfl⟩)
  · have e : (e0 && gg) = true := by rw [hc.1, hc.2]; rfl
    simp only [e, if_true]
    (refine OutQ.drop _ _ (perm2 (by simp only [hget, hdel, ↓reduceIte, if_true, if_false, FR.out]; first | done | rfl) (by simp only [hget, hdel, ↓reduceIte, if_true, if_false, FR.out]; first | done | rfl)) (by simp only [resv, ZK, look, loadv, loadn, loadnm, load1, load1m, hget, ↓reduceIte, Nat.reduceEqDiff, Nat.reduceAdd, Nat.reduceMul, Nat.reduceLeDiff, Nat.reduceLT, reduceCtorEq, TFCoK, FR.out]) ⟨(by simp only [resv, resA, ZK, look, loadv, loadn, loadnm, load1, load1m, hget, ↓reduceIte, Nat.reduceEqDiff, Nat.reduceAdd, Nat.reduceMul, Nat.reduceLeDiff, Nat.reduceLT, reduceCtorEq, TFCoK, FR.out]; first | done | rfl), rfl⟩)
set_option maxRecDepth 8000 in
set_option maxHeartbeats 2000000 in
theorem cread_1 (n0 n1 : Nat) (FZ AZ Z : List Int) (tx : ByteArray) (M1 M2 : MB) (E : Int) (gg : Bool)
    (c1 : ∀ b, ACt Tryd.prog 30 [pt b 0, iv .i64 9] [(b, rd Z false)] (fun x F => x = iv .i64 1 ∧ F = [(b, M1)]))
    (c2 : ∀ b, ACt Tryd.prog 31 [pt b 0, iv .i64 40000] [(b, M1)] (fun x F => x = .lit (.string tx) ∧ F = [(b, M2)]))
    (cE : ∀ b, ACt Tryd.prog 36 [pt b 0] [(b, M2)] (fun x F => x = iv .i64 E ∧ F = [(b, M2)]))
    (cG : ACt Tryd.prog 12 [ov ⟨1, tx, 0, 0, 0, k0, s0⟩] [(0, .ro .u8 FZ 256 n0), (1, .ro .u8 AZ 32 n1)] (fun x F => x = bv gg ∧ F = [(0, .ro .u8 FZ 256 n0), (1, .ro .u8 AZ 32 n1)])) :
    ACt Tryd.prog 13 [.slz .u8 Z] [(0, .ro .u8 FZ 256 n0), (1, .ro .u8 AZ 32 n1)] (fun x F => x = .tup [ov (if ((E == 0) && gg) = true then ⟨1, tx, 0, 0, 0, k0, s0⟩ else o0), iv .i64 (if ((E == 0) && gg) = true then 0 else 10)] ∧ F = [(0, .ro .u8 FZ 256 n0), (1, .ro .u8 AZ 32 n1)]) := by
  have h0 := neI E 0
  obtain ⟨e0, he⟩ : ∃ x, (E == 0) = x := ⟨_, rfl⟩
  rw [he] at h0 ⊢
  clear he
  have y1 : ((1 : Int) == 1) = true := rfl
  have y6 : ((1 : Int) == 6) = false := rfl
  have y7 : ((1 : Int) == 7) = false := rfl
  have y2 : ((1 : Int) == 2) = false := rfl
  have y4 : ((1 : Int) == 4) = false := rfl
  have y5 : ((1 : Int) == 5) = false := rfl
  have y3 : ((1 : Int) == 3) = false := rfl
  refine ACt.intro Tryd.func13 rfl (by kernel_rfl) (by simp [Tryd.ntmps13]) (fun cx => ?_)
  simp only [argE, Tryd.ntmps13, Tryd.results13]
  have FR : Sm (¬ ((1 : Nat) = 0)) := Sm.mk Nat.one_ne_zero
  (refine WP.nd fun hnd => ?_; simp only [ndF, fresh_cons, fresh_nil, and_true, ne_eq] at hnd; replace FR := Sm.mk (And.intro hnd FR.out); clear hnd)
  first | (have FRx := FR; clear FRx) | have FR := fr0S
  have FA := Sm.mk (And.intro TFCoK (And.intro h0 (And.intro y1 (And.intro y6 (And.intro y7 (And.intro y2 (And.intro y4 (And.intro y5 y3))))))))
  repeat' first | (apply Sm.mk; refine Ys ?_) | refine WP.seq fun K hK => ?_ | (apply Ob.mk; exact Yo) | refine And.intro (Ob.out ?_) ?_ | refine Y1CoK ?_ | refine Yv (c := new_cr Z) (r := ?_) | refine Yc (c := new_cr Z) (r := ?_) | refine Yw1 (c := c1 nb2) (r := ?_) | refine Yw1 (c := c2 nb2) (r := ?_) | refine Yw1 (c := cE nb2) (r := ?_) | refine Yl2 (c := cG) (r := ?_) | refine YzCoK ?_ | (refine WP.cond rfl (fun hc => ?_) (fun hc => ?_) <;> (try simp only [ZC, reduceCtorEq, ZD] at hc) <;> (try exact absurd hc (by decide)) <;> (try (exfalso; omega))) | refine Rt.mk (And.intro (fun hg => Sm.out ?_) fun hg => Sm.out ?_) | (refine Nu.mk ?_; first | (fail_if_success have := nb1); intro nb1 | (fail_if_success have := nb2); intro nb2 | (fail_if_success have := nb3); intro nb3 | (fail_if_success have := nb4); intro nb4 | (fail_if_success have := nb5); intro nb5 | intro nbz) | (apply Yfr; refine Yf FR fun hFRb FR => ?_) | refine Two.mk ?_ ?_ | (apply Yxc; exact Yx) | refine Cs.mk fun hcs => Sm.out ?_ | go_step | omega | (simp only [maxLen_eq]; omega) | exact trivial | refine Or.inr (Rt.mk (And.intro (fun hg => Sm.out ?_) fun hg => Sm.out ?_))
  · have e : (e0 && gg) = false := by rcases hc with h | h <;> simp [h]
    simp only [e, Bool.false_eq_true, if_false]
    (refine OutQ.drop _ _ (perm2 (by simp only [hget, hdel, ↓reduceIte, if_true, if_false, FR.out]; first | done | rfl) (by simp only [hget, hdel, ↓reduceIte, if_true, if_false, FR.out]; first | done | rfl)) (by simp only [resv, ZK, look, loadv, loadn, loadnm, load1, load1m, hget, ↓reduceIte, Nat.reduceEqDiff, Nat.reduceAdd, Nat.reduceMul, Nat.reduceLeDiff, Nat.reduceLT, reduceCtorEq, TFCoK, FR.out]) ⟨(by simp only [resv, resA, ZK, look, loadv, loadn, loadnm, load1, load1m, hget, ↓reduceIte, Nat.reduceEqDiff, Nat.reduceAdd, Nat.reduceMul, Nat.reduceLeDiff, Nat.reduceLT, reduceCtorEq, TFCoK, FR.out]; first | done | rfl), rfl⟩)
  · have e : (e0 && gg) = true := by rw [hc.1, hc.2]; rfl
    simp only [e, if_true]
    (refine OutQ.drop _ _ (perm2 (by simp only [hget, hdel, ↓reduceIte, if_true, if_false, FR.out]; first | done | rfl) (by simp only [hget, hdel, ↓reduceIte, if_true, if_false, FR.out]; first | done | rfl)) (by simp only [resv, ZK, look, loadv, loadn, loadnm, load1, load1m, hget, ↓reduceIte, Nat.reduceEqDiff, Nat.reduceAdd, Nat.reduceMul, Nat.reduceLeDiff, Nat.reduceLT, reduceCtorEq, TFCoK, FR.out]) ⟨(by simp only [resv, resA, ZK, look, loadv, loadn, loadnm, load1, load1m, hget, ↓reduceIte, Nat.reduceEqDiff, Nat.reduceAdd, Nat.reduceMul, Nat.reduceLeDiff, Nat.reduceLT, reduceCtorEq, TFCoK, FR.out]; first | done | rfl), rfl⟩)
set_option maxRecDepth 8000 in
set_option maxHeartbeats 2000000 in
theorem cread_2 (n0 n1 : Nat) (FZ AZ Z : List Int) (tx : ByteArray) (a : Int) (g t : Int) (M1 M2 M3 M4 M5 : MB) (E : Int) (gg : Bool)
    (c1 : ∀ b, ACt Tryd.prog 30 [pt b 0, iv .i64 9] [(b, rd Z false)] (fun x F => x = iv .i64 2 ∧ F = [(b, M1)]))
    (c2 : ∀ b, ACt Tryd.prog 31 [pt b 0, iv .i64 40000] [(b, M1)] (fun x F => x = .lit (.string tx) ∧ F = [(b, M2)]))
    (c3 : ∀ b, ACt Tryd.prog 34 [pt b 0] [(b, M2)] (fun x F => x = iv .i64 a ∧ F = [(b, M3)]))
    (c4 : ∀ b, ACt Tryd.prog 35 [pt b 0] [(b, M3)] (fun x F => x = iv .u64 g ∧ F = [(b, M4)]))
    (c5 : ∀ b, ACt Tryd.prog 35 [pt b 0] [(b, M4)] (fun x F => x = iv .u64 t ∧ F = [(b, M5)]))
    (cE : ∀ b, ACt Tryd.prog 36 [pt b 0] [(b, M5)] (fun x F => x = iv .i64 E ∧ F = [(b, M5)]))
    (cG : ACt Tryd.prog 12 [ov ⟨2, tx, a, g, t, k0, s0⟩] [(0, .ro .u8 FZ 256 n0), (1, .ro .u8 AZ 32 n1)] (fun x F => x = bv gg ∧ F = [(0, .ro .u8 FZ 256 n0), (1, .ro .u8 AZ 32 n1)])) :
    ACt Tryd.prog 13 [.slz .u8 Z] [(0, .ro .u8 FZ 256 n0), (1, .ro .u8 AZ 32 n1)] (fun x F => x = .tup [ov (if ((E == 0) && gg) = true then ⟨2, tx, a, g, t, k0, s0⟩ else o0), iv .i64 (if ((E == 0) && gg) = true then 0 else 10)] ∧ F = [(0, .ro .u8 FZ 256 n0), (1, .ro .u8 AZ 32 n1)]) := by
  have h0 := neI E 0
  obtain ⟨e0, he⟩ : ∃ x, (E == 0) = x := ⟨_, rfl⟩
  rw [he] at h0 ⊢
  clear he
  have y1 : ((2 : Int) == 1) = false := rfl
  have y6 : ((2 : Int) == 6) = false := rfl
  have y7 : ((2 : Int) == 7) = false := rfl
  have y2 : ((2 : Int) == 2) = true := rfl
  have y4 : ((2 : Int) == 4) = false := rfl
  have y5 : ((2 : Int) == 5) = false := rfl
  have y3 : ((2 : Int) == 3) = false := rfl
  refine ACt.intro Tryd.func13 rfl (by kernel_rfl) (by simp [Tryd.ntmps13]) (fun cx => ?_)
  simp only [argE, Tryd.ntmps13, Tryd.results13]
  have FR : Sm (¬ ((1 : Nat) = 0)) := Sm.mk Nat.one_ne_zero
  (refine WP.nd fun hnd => ?_; simp only [ndF, fresh_cons, fresh_nil, and_true, ne_eq] at hnd; replace FR := Sm.mk (And.intro hnd FR.out); clear hnd)
  first | (have FRx := FR; clear FRx) | have FR := fr0S
  have FA := Sm.mk (And.intro TFCoK (And.intro h0 (And.intro y1 (And.intro y6 (And.intro y7 (And.intro y2 (And.intro y4 (And.intro y5 y3))))))))
  repeat' first | (apply Sm.mk; refine Ys ?_) | refine WP.seq fun K hK => ?_ | (apply Ob.mk; exact Yo) | refine And.intro (Ob.out ?_) ?_ | refine Y1CoK ?_ | refine Yv (c := new_cr Z) (r := ?_) | refine Yc (c := new_cr Z) (r := ?_) | refine Yw1 (c := c1 nb2) (r := ?_) | refine Yw1 (c := c2 nb2) (r := ?_) | refine Yw1 (c := c3 nb2) (r := ?_) | refine Yw1 (c := c4 nb2) (r := ?_) | refine Yw1 (c := c5 nb2) (r := ?_) | refine Yw1 (c := cE nb2) (r := ?_) | refine Yl2 (c := cG) (r := ?_) | refine YzCoK ?_ | (refine WP.cond rfl (fun hc => ?_) (fun hc => ?_) <;> (try simp only [ZC, reduceCtorEq, ZD] at hc) <;> (try exact absurd hc (by decide)) <;> (try (exfalso; omega))) | refine Rt.mk (And.intro (fun hg => Sm.out ?_) fun hg => Sm.out ?_) | (refine Nu.mk ?_; first | (fail_if_success have := nb1); intro nb1 | (fail_if_success have := nb2); intro nb2 | (fail_if_success have := nb3); intro nb3 | (fail_if_success have := nb4); intro nb4 | (fail_if_success have := nb5); intro nb5 | intro nbz) | (apply Yfr; refine Yf FR fun hFRb FR => ?_) | refine Two.mk ?_ ?_ | (apply Yxc; exact Yx) | refine Cs.mk fun hcs => Sm.out ?_ | go_step | omega | (simp only [maxLen_eq]; omega) | exact trivial | refine Or.inr (Rt.mk (And.intro (fun hg => Sm.out ?_) fun hg => Sm.out ?_))
  · have e : (e0 && gg) = false := by rcases hc with h | h <;> simp [h]
    simp only [e, Bool.false_eq_true, if_false]
    (refine OutQ.drop _ _ (perm2 (by simp only [hget, hdel, ↓reduceIte, if_true, if_false, FR.out]; first | done | rfl) (by simp only [hget, hdel, ↓reduceIte, if_true, if_false, FR.out]; first | done | rfl)) (by simp only [resv, ZK, look, loadv, loadn, loadnm, load1, load1m, hget, ↓reduceIte, Nat.reduceEqDiff, Nat.reduceAdd, Nat.reduceMul, Nat.reduceLeDiff, Nat.reduceLT, reduceCtorEq, TFCoK, FR.out]) ⟨(by simp only [resv, resA, ZK, look, loadv, loadn, loadnm, load1, load1m, hget, ↓reduceIte, Nat.reduceEqDiff, Nat.reduceAdd, Nat.reduceMul, Nat.reduceLeDiff, Nat.reduceLT, reduceCtorEq, TFCoK, FR.out]; first | done | rfl), rfl⟩)
  · have e : (e0 && gg) = true := by rw [hc.1, hc.2]; rfl
    simp only [e, if_true]
    (refine OutQ.drop _ _ (perm2 (by simp only [hget, hdel, ↓reduceIte, if_true, if_false, FR.out]; first | done | rfl) (by simp only [hget, hdel, ↓reduceIte, if_true, if_false, FR.out]; first | done | rfl)) (by simp only [resv, ZK, look, loadv, loadn, loadnm, load1, load1m, hget, ↓reduceIte, Nat.reduceEqDiff, Nat.reduceAdd, Nat.reduceMul, Nat.reduceLeDiff, Nat.reduceLT, reduceCtorEq, TFCoK, FR.out]) ⟨(by simp only [resv, resA, ZK, look, loadv, loadn, loadnm, load1, load1m, hget, ↓reduceIte, Nat.reduceEqDiff, Nat.reduceAdd, Nat.reduceMul, Nat.reduceLeDiff, Nat.reduceLT, reduceCtorEq, TFCoK, FR.out]; first | done | rfl), rfl⟩)
set_option maxRecDepth 8000 in
set_option maxHeartbeats 2000000 in
theorem cread_3 (n0 n1 : Nat) (FZ AZ Z : List Int) (a : Int) (M1 M2 : MB) (E : Int) (gg : Bool)
    (c1 : ∀ b, ACt Tryd.prog 30 [pt b 0, iv .i64 9] [(b, rd Z false)] (fun x F => x = iv .i64 3 ∧ F = [(b, M1)]))
    (c2 : ∀ b, ACt Tryd.prog 34 [pt b 0] [(b, M1)] (fun x F => x = iv .i64 a ∧ F = [(b, M2)]))
    (cE : ∀ b, ACt Tryd.prog 36 [pt b 0] [(b, M2)] (fun x F => x = iv .i64 E ∧ F = [(b, M2)]))
    (cG : ACt Tryd.prog 12 [ov ⟨3, ⟨#[]⟩, a, 0, 0, k0, s0⟩] [(0, .ro .u8 FZ 256 n0), (1, .ro .u8 AZ 32 n1)] (fun x F => x = bv gg ∧ F = [(0, .ro .u8 FZ 256 n0), (1, .ro .u8 AZ 32 n1)])) :
    ACt Tryd.prog 13 [.slz .u8 Z] [(0, .ro .u8 FZ 256 n0), (1, .ro .u8 AZ 32 n1)] (fun x F => x = .tup [ov (if ((E == 0) && gg) = true then ⟨3, ⟨#[]⟩, a, 0, 0, k0, s0⟩ else o0), iv .i64 (if ((E == 0) && gg) = true then 0 else 10)] ∧ F = [(0, .ro .u8 FZ 256 n0), (1, .ro .u8 AZ 32 n1)]) := by
  have h0 := neI E 0
  obtain ⟨e0, he⟩ : ∃ x, (E == 0) = x := ⟨_, rfl⟩
  rw [he] at h0 ⊢
  clear he
  have y1 : ((3 : Int) == 1) = false := rfl
  have y6 : ((3 : Int) == 6) = false := rfl
  have y7 : ((3 : Int) == 7) = false := rfl
  have y2 : ((3 : Int) == 2) = false := rfl
  have y4 : ((3 : Int) == 4) = false := rfl
  have y5 : ((3 : Int) == 5) = false := rfl
  have y3 : ((3 : Int) == 3) = true := rfl
  refine ACt.intro Tryd.func13 rfl (by kernel_rfl) (by simp [Tryd.ntmps13]) (fun cx => ?_)
  simp only [argE, Tryd.ntmps13, Tryd.results13]
  have FR : Sm (¬ ((1 : Nat) = 0)) := Sm.mk Nat.one_ne_zero
  (refine WP.nd fun hnd => ?_; simp only [ndF, fresh_cons, fresh_nil, and_true, ne_eq] at hnd; replace FR := Sm.mk (And.intro hnd FR.out); clear hnd)
  first | (have FRx := FR; clear FRx) | have FR := fr0S
  have FA := Sm.mk (And.intro TFCoK (And.intro h0 (And.intro y1 (And.intro y6 (And.intro y7 (And.intro y2 (And.intro y4 (And.intro y5 y3))))))))
  repeat' first | (apply Sm.mk; refine Ys ?_) | refine WP.seq fun K hK => ?_ | (apply Ob.mk; exact Yo) | refine And.intro (Ob.out ?_) ?_ | refine Y1CoK ?_ | refine Yv (c := new_cr Z) (r := ?_) | refine Yc (c := new_cr Z) (r := ?_) | refine Yw1 (c := c1 nb2) (r := ?_) | refine Yw1 (c := c2 nb2) (r := ?_) | refine Yw1 (c := cE nb2) (r := ?_) | refine Yl2 (c := cG) (r := ?_) | refine YzCoK ?_ | (refine WP.cond rfl (fun hc => ?_) (fun hc => ?_) <;> (try simp only [ZC, reduceCtorEq, ZD] at hc) <;> (try exact absurd hc (by decide)) <;> (try (exfalso; omega))) | refine Rt.mk (And.intro (fun hg => Sm.out ?_) fun hg => Sm.out ?_) | (refine Nu.mk ?_; first | (fail_if_success have := nb1); intro nb1 | (fail_if_success have := nb2); intro nb2 | (fail_if_success have := nb3); intro nb3 | (fail_if_success have := nb4); intro nb4 | (fail_if_success have := nb5); intro nb5 | intro nbz) | (apply Yfr; refine Yf FR fun hFRb FR => ?_) | refine Two.mk ?_ ?_ | (apply Yxc; exact Yx) | refine Cs.mk fun hcs => Sm.out ?_ | go_step | omega | (simp only [maxLen_eq]; omega) | exact trivial | refine Or.inr (Rt.mk (And.intro (fun hg => Sm.out ?_) fun hg => Sm.out ?_))
  · have e : (e0 && gg) = false := by rcases hc with h | h <;> simp [h]
    simp only [e, Bool.false_eq_true, if_false]
    (refine OutQ.drop _ _ (perm2 (by simp only [hget, hdel, ↓reduceIte, if_true, if_false, FR.out]; first | done | rfl) (by simp only [hget, hdel, ↓reduceIte, if_true, if_false, FR.out]; first | done | rfl)) (by simp only [resv, ZK, look, loadv, loadn, loadnm, load1, load1m, hget, ↓reduceIte, Nat.reduceEqDiff, Nat.reduceAdd, Nat.reduceMul, Nat.reduceLeDiff, Nat.reduceLT, reduceCtorEq, TFCoK, FR.out]) ⟨(by simp only [resv, resA, ZK, look, loadv, loadn, loadnm, load1, load1m, hget, ↓reduceIte, Nat.reduceEqDiff, Nat.reduceAdd, Nat.reduceMul, Nat.reduceLeDiff, Nat.reduceLT, reduceCtorEq, TFCoK, FR.out]; first | done | rfl), rfl⟩)
  · have e : (e0 && gg) = true := by rw [hc.1, hc.2]; rfl
    simp only [e, if_true]
    (refine OutQ.drop _ _ (perm2 (by simp only [hget, hdel, ↓reduceIte, if_true, if_false, FR.out]; first | done | rfl) (by simp only [hget, hdel, ↓reduceIte, if_true, if_false, FR.out]; first | done | rfl)) (by simp only [resv, ZK, look, loadv, loadn, loadnm, load1, load1m, hget, ↓reduceIte, Nat.reduceEqDiff, Nat.reduceAdd, Nat.reduceMul, Nat.reduceLeDiff, Nat.reduceLT, reduceCtorEq, TFCoK, FR.out]) ⟨(by simp only [resv, resA, ZK, look, loadv, loadn, loadnm, load1, load1m, hget, ↓reduceIte, Nat.reduceEqDiff, Nat.reduceAdd, Nat.reduceMul, Nat.reduceLeDiff, Nat.reduceLT, reduceCtorEq, TFCoK, FR.out]; first | done | rfl), rfl⟩)
set_option maxRecDepth 8000 in
set_option maxHeartbeats 2000000 in
theorem cread_4 (n0 n1 : Nat) (FZ AZ Z : List Int) (k : Ky) (M1 M2 : MB) (E : Int) (gg : Bool)
    (c1 : ∀ b, ACt Tryd.prog 30 [pt b 0, iv .i64 9] [(b, rd Z false)] (fun x F => x = iv .i64 4 ∧ F = [(b, M1)]))
    (c2 : ∀ b, ACt Tryd.prog 32 [pt b 0] [(b, M1)] (fun x F => x = kv k ∧ F = [(b, M2)]))
    (cE : ∀ b, ACt Tryd.prog 36 [pt b 0] [(b, M2)] (fun x F => x = iv .i64 E ∧ F = [(b, M2)]))
    (cG : ACt Tryd.prog 12 [ov ⟨4, ⟨#[]⟩, 0, 0, 0, k, s0⟩] [(0, .ro .u8 FZ 256 n0), (1, .ro .u8 AZ 32 n1)] (fun x F => x = bv gg ∧ F = [(0, .ro .u8 FZ 256 n0), (1, .ro .u8 AZ 32 n1)])) :
    ACt Tryd.prog 13 [.slz .u8 Z] [(0, .ro .u8 FZ 256 n0), (1, .ro .u8 AZ 32 n1)] (fun x F => x = .tup [ov (if ((E == 0) && gg) = true then ⟨4, ⟨#[]⟩, 0, 0, 0, k, s0⟩ else o0), iv .i64 (if ((E == 0) && gg) = true then 0 else 10)] ∧ F = [(0, .ro .u8 FZ 256 n0), (1, .ro .u8 AZ 32 n1)]) := by
  obtain ⟨kg, kr, kp, ke, ks⟩ := k
  have h0 := neI E 0
  obtain ⟨e0, he⟩ : ∃ x, (E == 0) = x := ⟨_, rfl⟩
  rw [he] at h0 ⊢
  clear he
  have y1 : ((4 : Int) == 1) = false := rfl
  have y6 : ((4 : Int) == 6) = false := rfl
  have y7 : ((4 : Int) == 7) = false := rfl
  have y2 : ((4 : Int) == 2) = false := rfl
  have y4 : ((4 : Int) == 4) = true := rfl
  have y5 : ((4 : Int) == 5) = false := rfl
  have y3 : ((4 : Int) == 3) = false := rfl
  refine ACt.intro Tryd.func13 rfl (by kernel_rfl) (by simp [Tryd.ntmps13]) (fun cx => ?_)
  simp only [argE, Tryd.ntmps13, Tryd.results13]
  have FR : Sm (¬ ((1 : Nat) = 0)) := Sm.mk Nat.one_ne_zero
  (refine WP.nd fun hnd => ?_; simp only [ndF, fresh_cons, fresh_nil, and_true, ne_eq] at hnd; replace FR := Sm.mk (And.intro hnd FR.out); clear hnd)
  first | (have FRx := FR; clear FRx) | have FR := fr0S
  have FA := Sm.mk (And.intro TFCoK (And.intro h0 (And.intro y1 (And.intro y6 (And.intro y7 (And.intro y2 (And.intro y4 (And.intro y5 y3))))))))
  repeat' first | (apply Sm.mk; refine Ys ?_) | refine WP.seq fun K hK => ?_ | (apply Ob.mk; exact Yo) | refine And.intro (Ob.out ?_) ?_ | refine Y1CoK ?_ | refine Yv (c := new_cr Z) (r := ?_) | refine Yc (c := new_cr Z) (r := ?_) | refine Yw1 (c := c1 nb2) (r := ?_) | refine Yw1 (c := c2 nb2) (r := ?_) | refine Yw1 (c := cE nb2) (r := ?_) | refine Yl2 (c := cG) (r := ?_) | refine YzCoK ?_ | (refine WP.cond rfl (fun hc => ?_) (fun hc => ?_) <;> (try simp only [ZC, reduceCtorEq, ZD] at hc) <;> (try exact absurd hc (by decide)) <;> (try (exfalso; omega))) | refine Rt.mk (And.intro (fun hg => Sm.out ?_) fun hg => Sm.out ?_) | (refine Nu.mk ?_; first | (fail_if_success have := nb1); intro nb1 | (fail_if_success have := nb2); intro nb2 | (fail_if_success have := nb3); intro nb3 | (fail_if_success have := nb4); intro nb4 | (fail_if_success have := nb5); intro nb5 | intro nbz) | (apply Yfr; refine Yf FR fun hFRb FR => ?_) | refine Two.mk ?_ ?_ | (apply Yxc; exact Yx) | refine Cs.mk fun hcs => Sm.out ?_ | go_step | omega | (simp only [maxLen_eq]; omega) | exact trivial | refine Or.inr (Rt.mk (And.intro (fun hg => Sm.out ?_) fun hg => Sm.out ?_))
  · have e : (e0 && gg) = false := by rcases hc with h | h <;> simp [h]
    simp only [e, Bool.false_eq_true, if_false]
    (refine OutQ.drop _ _ (perm2 (by simp only [hget, hdel, ↓reduceIte, if_true, if_false, FR.out]; first | done | rfl) (by simp only [hget, hdel, ↓reduceIte, if_true, if_false, FR.out]; first | done | rfl)) (by simp only [resv, ZK, look, loadv, loadn, loadnm, load1, load1m, hget, ↓reduceIte, Nat.reduceEqDiff, Nat.reduceAdd, Nat.reduceMul, Nat.reduceLeDiff, Nat.reduceLT, reduceCtorEq, TFCoK, FR.out]) ⟨(by simp only [resv, resA, ZK, look, loadv, loadn, loadnm, load1, load1m, hget, ↓reduceIte, Nat.reduceEqDiff, Nat.reduceAdd, Nat.reduceMul, Nat.reduceLeDiff, Nat.reduceLT, reduceCtorEq, TFCoK, FR.out]; first | done | rfl), rfl⟩)
  · have e : (e0 && gg) = true := by rw [hc.1, hc.2]; rfl
    simp only [e, if_true]
    (refine OutQ.drop _ _ (perm2 (by simp only [hget, hdel, ↓reduceIte, if_true, if_false, FR.out]; first | done | rfl) (by simp only [hget, hdel, ↓reduceIte, if_true, if_false, FR.out]; first | done | rfl)) (by simp only [resv, ZK, look, loadv, loadn, loadnm, load1, load1m, hget, ↓reduceIte, Nat.reduceEqDiff, Nat.reduceAdd, Nat.reduceMul, Nat.reduceLeDiff, Nat.reduceLT, reduceCtorEq, TFCoK, FR.out]) ⟨(by simp only [resv, resA, ZK, look, loadv, loadn, loadnm, load1, load1m, hget, ↓reduceIte, Nat.reduceEqDiff, Nat.reduceAdd, Nat.reduceMul, Nat.reduceLeDiff, Nat.reduceLT, reduceCtorEq, TFCoK, FR.out]; first | done | rfl), rfl⟩)
set_option maxRecDepth 8000 in
set_option maxHeartbeats 2000000 in
theorem cread_5 (n0 n1 : Nat) (FZ AZ Z : List Int) (s : Sl) (M1 M2 : MB) (E : Int) (gg : Bool)
    (c1 : ∀ b, ACt Tryd.prog 30 [pt b 0, iv .i64 9] [(b, rd Z false)] (fun x F => x = iv .i64 5 ∧ F = [(b, M1)]))
    (c2 : ∀ b, ACt Tryd.prog 33 [pt b 0] [(b, M1), (0, .ro .u8 FZ 256 n0), (1, .ro .u8 AZ 32 n1)] (fun x F => x = siv s ∧ F = [(b, M2), (0, .ro .u8 FZ 256 n0), (1, .ro .u8 AZ 32 n1)]))
    (cE : ∀ b, ACt Tryd.prog 36 [pt b 0] [(b, M2)] (fun x F => x = iv .i64 E ∧ F = [(b, M2)]))
    (cG : ACt Tryd.prog 12 [ov ⟨5, ⟨#[]⟩, 0, 0, 0, k0, s⟩] [(0, .ro .u8 FZ 256 n0), (1, .ro .u8 AZ 32 n1)] (fun x F => x = bv gg ∧ F = [(0, .ro .u8 FZ 256 n0), (1, .ro .u8 AZ 32 n1)])) :
    ACt Tryd.prog 13 [.slz .u8 Z] [(0, .ro .u8 FZ 256 n0), (1, .ro .u8 AZ 32 n1)] (fun x F => x = .tup [ov (if ((E == 0) && gg) = true then ⟨5, ⟨#[]⟩, 0, 0, 0, k0, s⟩ else o0), iv .i64 (if ((E == 0) && gg) = true then 0 else 10)] ∧ F = [(0, .ro .u8 FZ 256 n0), (1, .ro .u8 AZ 32 n1)]) := by
  obtain ⟨nm, gl, w, f, t2⟩ := s
  have h0 := neI E 0
  obtain ⟨e0, he⟩ : ∃ x, (E == 0) = x := ⟨_, rfl⟩
  rw [he] at h0 ⊢
  clear he
  have y1 : ((5 : Int) == 1) = false := rfl
  have y6 : ((5 : Int) == 6) = false := rfl
  have y7 : ((5 : Int) == 7) = false := rfl
  have y2 : ((5 : Int) == 2) = false := rfl
  have y4 : ((5 : Int) == 4) = false := rfl
  have y5 : ((5 : Int) == 5) = true := rfl
  have y3 : ((5 : Int) == 3) = false := rfl
  refine ACt.intro Tryd.func13 rfl (by kernel_rfl) (by simp [Tryd.ntmps13]) (fun cx => ?_)
  simp only [argE, Tryd.ntmps13, Tryd.results13]
  have FR : Sm (¬ ((1 : Nat) = 0)) := Sm.mk Nat.one_ne_zero
  (refine WP.nd fun hnd => ?_; simp only [ndF, fresh_cons, fresh_nil, and_true, ne_eq] at hnd; replace FR := Sm.mk (And.intro hnd FR.out); clear hnd)
  first | (have FRx := FR; clear FRx) | have FR := fr0S
  have FA := Sm.mk (And.intro TFCoK (And.intro h0 (And.intro y1 (And.intro y6 (And.intro y7 (And.intro y2 (And.intro y4 (And.intro y5 y3))))))))
  repeat' first | (apply Sm.mk; refine Ys ?_) | refine WP.seq fun K hK => ?_ | (apply Ob.mk; exact Yo) | refine And.intro (Ob.out ?_) ?_ | refine Y1CoK ?_ | (refine CallV.row (by simp only [hget, ↓reduceIte, FR.out, h0, y1, y6, y7, y2, y4, y5, y3]; first | done | rfl) (new_cr Z) (Sm.out ?_)) | refine CallV.mkrow (new_cr Z) (Sm.out ?_) | (refine CallV.upd (by simp only [hget, ↓reduceIte, FR.out, h0, y1, y6, y7, y2, y4, y5, y3]; first | done | rfl) (new_cr Z) (Sm.out ?_)) | refine CallV.mkobj (new_cr Z) (Sm.out ?_) | (first | refine CallV.fn (new_cr Z) (Sm.out ?_) | refine ExF.mk (new_cr Z) (Sm.out ?_) | refine ExG.mk (fun _ => new_cr Z) (Sm.out ?_) | refine ExG.mkJ (fun _ => new_cr Z) (Sm.out ?_) | refine ExG.mkI (Ob.out ?_) (fun _ => new_cr Z) (Sm.out ?_)) | (refine CallV.updM (c1 nb2) (perm1 (by simp only [hget, hdel, ↓reduceIte, FR.out, h0, y1, y6, y7, y2, y4, y5, y3]; first | done | rfl)) (Sm.out ?_)) | (refine CallV.updM (c2 nb2) (perm3 (by simp only [hget, hdel, ↓reduceIte, FR.out]; first | done | rfl) (by simp only [hget, hdel, ↓reduceIte, FR.out]; first | done | rfl) (by simp only [hget, hdel, ↓reduceIte, FR.out]; first | done | rfl)) (Sm.out ?_)) | (refine CallV.updM (cE nb2) (perm1 (by simp only [hget, hdel, ↓reduceIte, FR.out, h0, y1, y6, y7, y2, y4, y5, y3]; first | done | rfl)) (Sm.out ?_)) | (refine CallV.updM (cG) (perm2 (by simp only [hget, hdel, ↓reduceIte, FR.out, h0, y1, y6, y7, y2, y4, y5, y3]; first | done | rfl) (by simp only [hget, hdel, ↓reduceIte, FR.out, h0, y1, y6, y7, y2, y4, y5, y3]; first | done | rfl)) (Sm.out ?_)) | ((first | refine ExF.up ?_ (cG) (Sm.out ?_) | refine ExG.up ?_ (fun _ => cG) (Sm.out ?_) | refine ExG.upJ ?_ (fun _ => cG) (Sm.out ?_) | refine ExG.upI ?_ (fun _ => cG) (Ob.out ?_) (Sm.out ?_)); focus (exact ⟨_, (perm2 (by simp only [hget, hdel, ↓reduceIte, FR.out, h0, y1, y6, y7, y2, y4, y5, y3]; first | done | rfl) (by simp only [hget, hdel, ↓reduceIte, FR.out, h0, y1, y6, y7, y2, y4, y5, y3]; first | done | rfl))⟩)) | refine YzCoK ?_ | (refine WP.cond rfl (fun hc => ?_) (fun hc => ?_) <;> (try simp only [ZC, reduceCtorEq, ZD] at hc) <;> (try exact absurd hc (by decide)) <;> (try (exfalso; omega))) | refine Rt.mk (And.intro (fun hg => Sm.out ?_) fun hg => Sm.out ?_) | (refine Nu.mk ?_; first | (fail_if_success have := nb1); intro nb1 | (fail_if_success have := nb2); intro nb2 | (fail_if_success have := nb3); intro nb3 | (fail_if_success have := nb4); intro nb4 | (fail_if_success have := nb5); intro nb5 | intro nbz) | (apply Yfr; refine Yf FR fun hFRb FR => ?_) | refine Two.mk ?_ ?_ | (apply Yxc; exact Yx) | refine Cs.mk fun hcs => Sm.out ?_ | go_step | omega | (simp only [maxLen_eq]; omega) | exact trivial | refine Or.inr (Rt.mk (And.intro (fun hg => Sm.out ?_) fun hg => Sm.out ?_))
  · have e : (e0 && gg) = false := by rcases hc with h | h <;> simp [h]
    simp only [e, Bool.false_eq_true, if_false]
    (refine OutQ.drop _ _ (perm2 (by simp only [hget, hdel, ↓reduceIte, if_true, if_false, FR.out]; first | done | rfl) (by simp only [hget, hdel, ↓reduceIte, if_true, if_false, FR.out]; first | done | rfl)) (by simp only [resv, ZK, look, loadv, loadn, loadnm, load1, load1m, hget, ↓reduceIte, Nat.reduceEqDiff, Nat.reduceAdd, Nat.reduceMul, Nat.reduceLeDiff, Nat.reduceLT, reduceCtorEq, TFCoK, FR.out]) ⟨(by simp only [resv, resA, ZK, look, loadv, loadn, loadnm, load1, load1m, hget, ↓reduceIte, Nat.reduceEqDiff, Nat.reduceAdd, Nat.reduceMul, Nat.reduceLeDiff, Nat.reduceLT, reduceCtorEq, TFCoK, FR.out]; first | done | rfl), rfl⟩)
  · have e : (e0 && gg) = true := by rw [hc.1, hc.2]; rfl
    simp only [e, if_true]
    (refine OutQ.drop _ _ (perm2 (by simp only [hget, hdel, ↓reduceIte, if_true, if_false, FR.out]; first | done | rfl) (by simp only [hget, hdel, ↓reduceIte, if_true, if_false, FR.out]; first | done | rfl)) (by simp only [resv, ZK, look, loadv, loadn, loadnm, load1, load1m, hget, ↓reduceIte, Nat.reduceEqDiff, Nat.reduceAdd, Nat.reduceMul, Nat.reduceLeDiff, Nat.reduceLT, reduceCtorEq, TFCoK, FR.out]) ⟨(by simp only [resv, resA, ZK, look, loadv, loadn, loadnm, load1, load1m, hget, ↓reduceIte, Nat.reduceEqDiff, Nat.reduceAdd, Nat.reduceMul, Nat.reduceLeDiff, Nat.reduceLT, reduceCtorEq, TFCoK, FR.out]; first | done | rfl), rfl⟩)
set_option maxRecDepth 8000 in
set_option maxHeartbeats 2000000 in
theorem cread_6 (n0 n1 : Nat) (FZ AZ Z : List Int) (tx : ByteArray) (M1 M2 : MB) (E : Int) (gg : Bool)
    (c1 : ∀ b, ACt Tryd.prog 30 [pt b 0, iv .i64 9] [(b, rd Z false)] (fun x F => x = iv .i64 6 ∧ F = [(b, M1)]))
    (c2 : ∀ b, ACt Tryd.prog 31 [pt b 0, iv .i64 40000] [(b, M1)] (fun x F => x = .lit (.string tx) ∧ F = [(b, M2)]))
    (cE : ∀ b, ACt Tryd.prog 36 [pt b 0] [(b, M2)] (fun x F => x = iv .i64 E ∧ F = [(b, M2)]))
    (cG : ACt Tryd.prog 12 [ov ⟨6, tx, 0, 0, 0, k0, s0⟩] [(0, .ro .u8 FZ 256 n0), (1, .ro .u8 AZ 32 n1)] (fun x F => x = bv gg ∧ F = [(0, .ro .u8 FZ 256 n0), (1, .ro .u8 AZ 32 n1)])) :
    ACt Tryd.prog 13 [.slz .u8 Z] [(0, .ro .u8 FZ 256 n0), (1, .ro .u8 AZ 32 n1)] (fun x F => x = .tup [ov (if ((E == 0) && gg) = true then ⟨6, tx, 0, 0, 0, k0, s0⟩ else o0), iv .i64 (if ((E == 0) && gg) = true then 0 else 10)] ∧ F = [(0, .ro .u8 FZ 256 n0), (1, .ro .u8 AZ 32 n1)]) := by
  have h0 := neI E 0
  obtain ⟨e0, he⟩ : ∃ x, (E == 0) = x := ⟨_, rfl⟩
  rw [he] at h0 ⊢
  clear he
  have y1 : ((6 : Int) == 1) = false := rfl
  have y6 : ((6 : Int) == 6) = true := rfl
  have y7 : ((6 : Int) == 7) = false := rfl
  have y2 : ((6 : Int) == 2) = false := rfl
  have y4 : ((6 : Int) == 4) = false := rfl
  have y5 : ((6 : Int) == 5) = false := rfl
  have y3 : ((6 : Int) == 3) = false := rfl
  refine ACt.intro Tryd.func13 rfl (by kernel_rfl) (by simp [Tryd.ntmps13]) (fun cx => ?_)
  simp only [argE, Tryd.ntmps13, Tryd.results13]
  have FR : Sm (¬ ((1 : Nat) = 0)) := Sm.mk Nat.one_ne_zero
  (refine WP.nd fun hnd => ?_; simp only [ndF, fresh_cons, fresh_nil, and_true, ne_eq] at hnd; replace FR := Sm.mk (And.intro hnd FR.out); clear hnd)
  first | (have FRx := FR; clear FRx) | have FR := fr0S
  have FA := Sm.mk (And.intro TFCoK (And.intro h0 (And.intro y1 (And.intro y6 (And.intro y7 (And.intro y2 (And.intro y4 (And.intro y5 y3))))))))
  repeat' first | (apply Sm.mk; refine Ys ?_) | refine WP.seq fun K hK => ?_ | (apply Ob.mk; exact Yo) | refine And.intro (Ob.out ?_) ?_ | refine Y1CoK ?_ | refine Yv (c := new_cr Z) (r := ?_) | refine Yc (c := new_cr Z) (r := ?_) | refine Yw1 (c := c1 nb2) (r := ?_) | refine Yw1 (c := c2 nb2) (r := ?_) | refine Yw1 (c := cE nb2) (r := ?_) | refine Yl2 (c := cG) (r := ?_) | refine YzCoK ?_ | (refine WP.cond rfl (fun hc => ?_) (fun hc => ?_) <;> (try simp only [ZC, reduceCtorEq, ZD] at hc) <;> (try exact absurd hc (by decide)) <;> (try (exfalso; omega))) | refine Rt.mk (And.intro (fun hg => Sm.out ?_) fun hg => Sm.out ?_) | (refine Nu.mk ?_; first | (fail_if_success have := nb1); intro nb1 | (fail_if_success have := nb2); intro nb2 | (fail_if_success have := nb3); intro nb3 | (fail_if_success have := nb4); intro nb4 | (fail_if_success have := nb5); intro nb5 | intro nbz) | (apply Yfr; refine Yf FR fun hFRb FR => ?_) | refine Two.mk ?_ ?_ | (apply Yxc; exact Yx) | refine Cs.mk fun hcs => Sm.out ?_ | go_step | omega | (simp only [maxLen_eq]; omega) | exact trivial | refine Or.inr (Rt.mk (And.intro (fun hg => Sm.out ?_) fun hg => Sm.out ?_))
  · have e : (e0 && gg) = false := by rcases hc with h | h <;> simp [h]
    simp only [e, Bool.false_eq_true, if_false]
    (refine OutQ.drop _ _ (perm2 (by simp only [hget, hdel, ↓reduceIte, if_true, if_false, FR.out]; first | done | rfl) (by simp only [hget, hdel, ↓reduceIte, if_true, if_false, FR.out]; first | done | rfl)) (by simp only [resv, ZK, look, loadv, loadn, loadnm, load1, load1m, hget, ↓reduceIte, Nat.reduceEqDiff, Nat.reduceAdd, Nat.reduceMul, Nat.reduceLeDiff, Nat.reduceLT, reduceCtorEq, TFCoK, FR.out]) ⟨(by simp only [resv, resA, ZK, look, loadv, loadn, loadnm, load1, load1m, hget, ↓reduceIte, Nat.reduceEqDiff, Nat.reduceAdd, Nat.reduceMul, Nat.reduceLeDiff, Nat.reduceLT, reduceCtorEq, TFCoK, FR.out]; first | done | rfl), rfl⟩)
  · have e : (e0 && gg) = true := by rw [hc.1, hc.2]; rfl
    simp only [e, if_true]
    (refine OutQ.drop _ _ (perm2 (by simp only [hget, hdel, ↓reduceIte, if_true, if_false, FR.out]; first | done | rfl) (by simp only [hget, hdel, ↓reduceIte, if_true, if_false, FR.out]; first | done | rfl)) (by simp only [resv, ZK, look, loadv, loadn, loadnm, load1, load1m, hget, ↓reduceIte, Nat.reduceEqDiff, Nat.reduceAdd, Nat.reduceMul, Nat.reduceLeDiff, Nat.reduceLT, reduceCtorEq, TFCoK, FR.out]) ⟨(by simp only [resv, resA, ZK, look, loadv, loadn, loadnm, load1, load1m, hget, ↓reduceIte, Nat.reduceEqDiff, Nat.reduceAdd, Nat.reduceMul, Nat.reduceLeDiff, Nat.reduceLT, reduceCtorEq, TFCoK, FR.out]; first | done | rfl), rfl⟩)
set_option maxRecDepth 8000 in
set_option maxHeartbeats 2000000 in
theorem cread_7 (n0 n1 : Nat) (FZ AZ Z : List Int) (tx : ByteArray) (M1 M2 : MB) (E : Int) (gg : Bool)
    (c1 : ∀ b, ACt Tryd.prog 30 [pt b 0, iv .i64 9] [(b, rd Z false)] (fun x F => x = iv .i64 7 ∧ F = [(b, M1)]))
    (c2 : ∀ b, ACt Tryd.prog 31 [pt b 0, iv .i64 40000] [(b, M1)] (fun x F => x = .lit (.string tx) ∧ F = [(b, M2)]))
    (cE : ∀ b, ACt Tryd.prog 36 [pt b 0] [(b, M2)] (fun x F => x = iv .i64 E ∧ F = [(b, M2)]))
    (cG : ACt Tryd.prog 12 [ov ⟨7, tx, 0, 0, 0, k0, s0⟩] [(0, .ro .u8 FZ 256 n0), (1, .ro .u8 AZ 32 n1)] (fun x F => x = bv gg ∧ F = [(0, .ro .u8 FZ 256 n0), (1, .ro .u8 AZ 32 n1)])) :
    ACt Tryd.prog 13 [.slz .u8 Z] [(0, .ro .u8 FZ 256 n0), (1, .ro .u8 AZ 32 n1)] (fun x F => x = .tup [ov (if ((E == 0) && gg) = true then ⟨7, tx, 0, 0, 0, k0, s0⟩ else o0), iv .i64 (if ((E == 0) && gg) = true then 0 else 10)] ∧ F = [(0, .ro .u8 FZ 256 n0), (1, .ro .u8 AZ 32 n1)]) := by
  have h0 := neI E 0
  obtain ⟨e0, he⟩ : ∃ x, (E == 0) = x := ⟨_, rfl⟩
  rw [he] at h0 ⊢
  clear he
  have y1 : ((7 : Int) == 1) = false := rfl
  have y6 : ((7 : Int) == 6) = false := rfl
  have y7 : ((7 : Int) == 7) = true := rfl
  have y2 : ((7 : Int) == 2) = false := rfl
  have y4 : ((7 : Int) == 4) = false := rfl
  have y5 : ((7 : Int) == 5) = false := rfl
  have y3 : ((7 : Int) == 3) = false := rfl
  refine ACt.intro Tryd.func13 rfl (by kernel_rfl) (by simp [Tryd.ntmps13]) (fun cx => ?_)
  simp only [argE, Tryd.ntmps13, Tryd.results13]
  have FR : Sm (¬ ((1 : Nat) = 0)) := Sm.mk Nat.one_ne_zero
  (refine WP.nd fun hnd => ?_; simp only [ndF, fresh_cons, fresh_nil, and_true, ne_eq] at hnd; replace FR := Sm.mk (And.intro hnd FR.out); clear hnd)
  first | (have FRx := FR; clear FRx) | have FR := fr0S
  have FA := Sm.mk (And.intro TFCoK (And.intro h0 (And.intro y1 (And.intro y6 (And.intro y7 (And.intro y2 (And.intro y4 (And.intro y5 y3))))))))
  repeat' first | (apply Sm.mk; refine Ys ?_) | refine WP.seq fun K hK => ?_ | (apply Ob.mk; exact Yo) | refine And.intro (Ob.out ?_) ?_ | refine Y1CoK ?_ | refine Yv (c := new_cr Z) (r := ?_) | refine Yc (c := new_cr Z) (r := ?_) | refine Yw1 (c := c1 nb2) (r := ?_) | refine Yw1 (c := c2 nb2) (r := ?_) | refine Yw1 (c := cE nb2) (r := ?_) | refine Yl2 (c := cG) (r := ?_) | refine YzCoK ?_ | (refine WP.cond rfl (fun hc => ?_) (fun hc => ?_) <;> (try simp only [ZC, reduceCtorEq, ZD] at hc) <;> (try exact absurd hc (by decide)) <;> (try (exfalso; omega))) | refine Rt.mk (And.intro (fun hg => Sm.out ?_) fun hg => Sm.out ?_) | (refine Nu.mk ?_; first | (fail_if_success have := nb1); intro nb1 | (fail_if_success have := nb2); intro nb2 | (fail_if_success have := nb3); intro nb3 | (fail_if_success have := nb4); intro nb4 | (fail_if_success have := nb5); intro nb5 | intro nbz) | (apply Yfr; refine Yf FR fun hFRb FR => ?_) | refine Two.mk ?_ ?_ | (apply Yxc; exact Yx) | refine Cs.mk fun hcs => Sm.out ?_ | go_step | omega | (simp only [maxLen_eq]; omega) | exact trivial | refine Or.inr (Rt.mk (And.intro (fun hg => Sm.out ?_) fun hg => Sm.out ?_))
  · have e : (e0 && gg) = false := by rcases hc with h | h <;> simp [h]
    simp only [e, Bool.false_eq_true, if_false]
    (refine OutQ.drop _ _ (perm2 (by simp only [hget, hdel, ↓reduceIte, if_true, if_false, FR.out]; first | done | rfl) (by simp only [hget, hdel, ↓reduceIte, if_true, if_false, FR.out]; first | done | rfl)) (by simp only [resv, ZK, look, loadv, loadn, loadnm, load1, load1m, hget, ↓reduceIte, Nat.reduceEqDiff, Nat.reduceAdd, Nat.reduceMul, Nat.reduceLeDiff, Nat.reduceLT, reduceCtorEq, TFCoK, FR.out]) ⟨(by simp only [resv, resA, ZK, look, loadv, loadn, loadnm, load1, load1m, hget, ↓reduceIte, Nat.reduceEqDiff, Nat.reduceAdd, Nat.reduceMul, Nat.reduceLeDiff, Nat.reduceLT, reduceCtorEq, TFCoK, FR.out]; first | done | rfl), rfl⟩)
  · have e : (e0 && gg) = true := by rw [hc.1, hc.2]; rfl
    simp only [e, if_true]
    (refine OutQ.drop _ _ (perm2 (by simp only [hget, hdel, ↓reduceIte, if_true, if_false, FR.out]; first | done | rfl) (by simp only [hget, hdel, ↓reduceIte, if_true, if_false, FR.out]; first | done | rfl)) (by simp only [resv, ZK, look, loadv, loadn, loadnm, load1, load1m, hget, ↓reduceIte, Nat.reduceEqDiff, Nat.reduceAdd, Nat.reduceMul, Nat.reduceLeDiff, Nat.reduceLT, reduceCtorEq, TFCoK, FR.out]) ⟨(by simp only [resv, resA, ZK, look, loadv, loadn, loadnm, load1, load1m, hget, ↓reduceIte, Nat.reduceEqDiff, Nat.reduceAdd, Nat.reduceMul, Nat.reduceLeDiff, Nat.reduceLT, reduceCtorEq, TFCoK, FR.out]; first | done | rfl), rfl⟩)
set_option maxRecDepth 8000 in
set_option maxHeartbeats 2000000 in
theorem cread_8 (n0 n1 : Nat) (FZ AZ Z : List Int) (M1 : MB) (E : Int) (gg : Bool)
    (c1 : ∀ b, ACt Tryd.prog 30 [pt b 0, iv .i64 9] [(b, rd Z false)] (fun x F => x = iv .i64 8 ∧ F = [(b, M1)]))
    (cE : ∀ b, ACt Tryd.prog 36 [pt b 0] [(b, M1)] (fun x F => x = iv .i64 E ∧ F = [(b, M1)]))
    (cG : ACt Tryd.prog 12 [ov ⟨8, ⟨#[]⟩, 0, 0, 0, k0, s0⟩] [(0, .ro .u8 FZ 256 n0), (1, .ro .u8 AZ 32 n1)] (fun x F => x = bv gg ∧ F = [(0, .ro .u8 FZ 256 n0), (1, .ro .u8 AZ 32 n1)])) :
    ACt Tryd.prog 13 [.slz .u8 Z] [(0, .ro .u8 FZ 256 n0), (1, .ro .u8 AZ 32 n1)] (fun x F => x = .tup [ov (if ((E == 0) && gg) = true then ⟨8, ⟨#[]⟩, 0, 0, 0, k0, s0⟩ else o0), iv .i64 (if ((E == 0) && gg) = true then 0 else 10)] ∧ F = [(0, .ro .u8 FZ 256 n0), (1, .ro .u8 AZ 32 n1)]) := by
  have h0 := neI E 0
  obtain ⟨e0, he⟩ : ∃ x, (E == 0) = x := ⟨_, rfl⟩
  rw [he] at h0 ⊢
  clear he
  have y1 : ((8 : Int) == 1) = false := rfl
  have y6 : ((8 : Int) == 6) = false := rfl
  have y7 : ((8 : Int) == 7) = false := rfl
  have y2 : ((8 : Int) == 2) = false := rfl
  have y4 : ((8 : Int) == 4) = false := rfl
  have y5 : ((8 : Int) == 5) = false := rfl
  have y3 : ((8 : Int) == 3) = false := rfl
  refine ACt.intro Tryd.func13 rfl (by kernel_rfl) (by simp [Tryd.ntmps13]) (fun cx => ?_)
  simp only [argE, Tryd.ntmps13, Tryd.results13]
  have FR : Sm (¬ ((1 : Nat) = 0)) := Sm.mk Nat.one_ne_zero
  (refine WP.nd fun hnd => ?_; simp only [ndF, fresh_cons, fresh_nil, and_true, ne_eq] at hnd; replace FR := Sm.mk (And.intro hnd FR.out); clear hnd)
  first | (have FRx := FR; clear FRx) | have FR := fr0S
  have FA := Sm.mk (And.intro TFCoK (And.intro h0 (And.intro y1 (And.intro y6 (And.intro y7 (And.intro y2 (And.intro y4 (And.intro y5 y3))))))))
  repeat' first | (apply Sm.mk; refine Ys ?_) | refine WP.seq fun K hK => ?_ | (apply Ob.mk; exact Yo) | refine And.intro (Ob.out ?_) ?_ | refine Y1CoK ?_ | refine Yv (c := new_cr Z) (r := ?_) | refine Yc (c := new_cr Z) (r := ?_) | refine Yw1 (c := c1 nb2) (r := ?_) | refine Yw1 (c := cE nb2) (r := ?_) | refine Yl2 (c := cG) (r := ?_) | refine YzCoK ?_ | (refine WP.cond rfl (fun hc => ?_) (fun hc => ?_) <;> (try simp only [ZC, reduceCtorEq, ZD] at hc) <;> (try exact absurd hc (by decide)) <;> (try (exfalso; omega))) | refine Rt.mk (And.intro (fun hg => Sm.out ?_) fun hg => Sm.out ?_) | (refine Nu.mk ?_; first | (fail_if_success have := nb1); intro nb1 | (fail_if_success have := nb2); intro nb2 | (fail_if_success have := nb3); intro nb3 | (fail_if_success have := nb4); intro nb4 | (fail_if_success have := nb5); intro nb5 | intro nbz) | (apply Yfr; refine Yf FR fun hFRb FR => ?_) | refine Two.mk ?_ ?_ | (apply Yxc; exact Yx) | refine Cs.mk fun hcs => Sm.out ?_ | go_step | omega | (simp only [maxLen_eq]; omega) | exact trivial | refine Or.inr (Rt.mk (And.intro (fun hg => Sm.out ?_) fun hg => Sm.out ?_))
  · have e : (e0 && gg) = false := by rcases hc with h | h <;> simp [h]
    simp only [e, Bool.false_eq_true, if_false]
    (refine OutQ.drop _ _ (perm2 (by simp only [hget, hdel, ↓reduceIte, if_true, if_false, FR.out]; first | done | rfl) (by simp only [hget, hdel, ↓reduceIte, if_true, if_false, FR.out]; first | done | rfl)) (by simp only [resv, ZK, look, loadv, loadn, loadnm, load1, load1m, hget, ↓reduceIte, Nat.reduceEqDiff, Nat.reduceAdd, Nat.reduceMul, Nat.reduceLeDiff, Nat.reduceLT, reduceCtorEq, TFCoK, FR.out]) ⟨(by simp only [resv, resA, ZK, look, loadv, loadn, loadnm, load1, load1m, hget, ↓reduceIte, Nat.reduceEqDiff, Nat.reduceAdd, Nat.reduceMul, Nat.reduceLeDiff, Nat.reduceLT, reduceCtorEq, TFCoK, FR.out]; first | done | rfl), rfl⟩)
  · have e : (e0 && gg) = true := by rw [hc.1, hc.2]; rfl
    simp only [e, if_true]
    (refine OutQ.drop _ _ (perm2 (by simp only [hget, hdel, ↓reduceIte, if_true, if_false, FR.out]; first | done | rfl) (by simp only [hget, hdel, ↓reduceIte, if_true, if_false, FR.out]; first | done | rfl)) (by simp only [resv, ZK, look, loadv, loadn, loadnm, load1, load1m, hget, ↓reduceIte, Nat.reduceEqDiff, Nat.reduceAdd, Nat.reduceMul, Nat.reduceLeDiff, Nat.reduceLT, reduceCtorEq, TFCoK, FR.out]) ⟨(by simp only [resv, resA, ZK, look, loadv, loadn, loadnm, load1, load1m, hget, ↓reduceIte, Nat.reduceEqDiff, Nat.reduceAdd, Nat.reduceMul, Nat.reduceLeDiff, Nat.reduceLT, reduceCtorEq, TFCoK, FR.out]; first | done | rfl), rfl⟩)
set_option maxRecDepth 8000 in
set_option maxHeartbeats 2000000 in
theorem cread_9 (n0 n1 : Nat) (FZ AZ Z : List Int) (M1 : MB) (E : Int) (gg : Bool)
    (c1 : ∀ b, ACt Tryd.prog 30 [pt b 0, iv .i64 9] [(b, rd Z false)] (fun x F => x = iv .i64 9 ∧ F = [(b, M1)]))
    (cE : ∀ b, ACt Tryd.prog 36 [pt b 0] [(b, M1)] (fun x F => x = iv .i64 E ∧ F = [(b, M1)]))
    (cG : ACt Tryd.prog 12 [ov ⟨9, ⟨#[]⟩, 0, 0, 0, k0, s0⟩] [(0, .ro .u8 FZ 256 n0), (1, .ro .u8 AZ 32 n1)] (fun x F => x = bv gg ∧ F = [(0, .ro .u8 FZ 256 n0), (1, .ro .u8 AZ 32 n1)])) :
    ACt Tryd.prog 13 [.slz .u8 Z] [(0, .ro .u8 FZ 256 n0), (1, .ro .u8 AZ 32 n1)] (fun x F => x = .tup [ov (if ((E == 0) && gg) = true then ⟨9, ⟨#[]⟩, 0, 0, 0, k0, s0⟩ else o0), iv .i64 (if ((E == 0) && gg) = true then 0 else 10)] ∧ F = [(0, .ro .u8 FZ 256 n0), (1, .ro .u8 AZ 32 n1)]) := by
  have h0 := neI E 0
  obtain ⟨e0, he⟩ : ∃ x, (E == 0) = x := ⟨_, rfl⟩
  rw [he] at h0 ⊢
  clear he
  have y1 : ((9 : Int) == 1) = false := rfl
  have y6 : ((9 : Int) == 6) = false := rfl
  have y7 : ((9 : Int) == 7) = false := rfl
  have y2 : ((9 : Int) == 2) = false := rfl
  have y4 : ((9 : Int) == 4) = false := rfl
  have y5 : ((9 : Int) == 5) = false := rfl
  have y3 : ((9 : Int) == 3) = false := rfl
  refine ACt.intro Tryd.func13 rfl (by kernel_rfl) (by simp [Tryd.ntmps13]) (fun cx => ?_)
  simp only [argE, Tryd.ntmps13, Tryd.results13]
  have FR : Sm (¬ ((1 : Nat) = 0)) := Sm.mk Nat.one_ne_zero
  (refine WP.nd fun hnd => ?_; simp only [ndF, fresh_cons, fresh_nil, and_true, ne_eq] at hnd; replace FR := Sm.mk (And.intro hnd FR.out); clear hnd)
  first | (have FRx := FR; clear FRx) | have FR := fr0S
  have FA := Sm.mk (And.intro TFCoK (And.intro h0 (And.intro y1 (And.intro y6 (And.intro y7 (And.intro y2 (And.intro y4 (And.intro y5 y3))))))))
  repeat' first | (apply Sm.mk; refine Ys ?_) | refine WP.seq fun K hK => ?_ | (apply Ob.mk; exact Yo) | refine And.intro (Ob.out ?_) ?_ | refine Y1CoK ?_ | refine Yv (c := new_cr Z) (r := ?_) | refine Yc (c := new_cr Z) (r := ?_) | refine Yw1 (c := c1 nb2) (r := ?_) | refine Yw1 (c := cE nb2) (r := ?_) | refine Yl2 (c := cG) (r := ?_) | refine YzCoK ?_ | (refine WP.cond rfl (fun hc => ?_) (fun hc => ?_) <;> (try simp only [ZC, reduceCtorEq, ZD] at hc) <;> (try exact absurd hc (by decide)) <;> (try (exfalso; omega))) | refine Rt.mk (And.intro (fun hg => Sm.out ?_) fun hg => Sm.out ?_) | (refine Nu.mk ?_; first | (fail_if_success have := nb1); intro nb1 | (fail_if_success have := nb2); intro nb2 | (fail_if_success have := nb3); intro nb3 | (fail_if_success have := nb4); intro nb4 | (fail_if_success have := nb5); intro nb5 | intro nbz) | (apply Yfr; refine Yf FR fun hFRb FR => ?_) | refine Two.mk ?_ ?_ | (apply Yxc; exact Yx) | refine Cs.mk fun hcs => Sm.out ?_ | go_step | omega | (simp only [maxLen_eq]; omega) | exact trivial | refine Or.inr (Rt.mk (And.intro (fun hg => Sm.out ?_) fun hg => Sm.out ?_))
  · have e : (e0 && gg) = false := by rcases hc with h | h <;> simp [h]
    simp only [e, Bool.false_eq_true, if_false]
    (refine OutQ.drop _ _ (perm2 (by simp only [hget, hdel, ↓reduceIte, if_true, if_false, FR.out]; first | done | rfl) (by simp only [hget, hdel, ↓reduceIte, if_true, if_false, FR.out]; first | done | rfl)) (by simp only [resv, ZK, look, loadv, loadn, loadnm, load1, load1m, hget, ↓reduceIte, Nat.reduceEqDiff, Nat.reduceAdd, Nat.reduceMul, Nat.reduceLeDiff, Nat.reduceLT, reduceCtorEq, TFCoK, FR.out]) ⟨(by simp only [resv, resA, ZK, look, loadv, loadn, loadnm, load1, load1m, hget, ↓reduceIte, Nat.reduceEqDiff, Nat.reduceAdd, Nat.reduceMul, Nat.reduceLeDiff, Nat.reduceLT, reduceCtorEq, TFCoK, FR.out]; first | done | rfl), rfl⟩)
  · have e : (e0 && gg) = true := by rw [hc.1, hc.2]; rfl
    simp only [e, if_true]
    (refine OutQ.drop _ _ (perm2 (by simp only [hget, hdel, ↓reduceIte, if_true, if_false, FR.out]; first | done | rfl) (by simp only [hget, hdel, ↓reduceIte, if_true, if_false, FR.out]; first | done | rfl)) (by simp only [resv, ZK, look, loadv, loadn, loadnm, load1, load1m, hget, ↓reduceIte, Nat.reduceEqDiff, Nat.reduceAdd, Nat.reduceMul, Nat.reduceLeDiff, Nat.reduceLT, reduceCtorEq, TFCoK, FR.out]) ⟨(by simp only [resv, resA, ZK, look, loadv, loadn, loadnm, load1, load1m, hget, ↓reduceIte, Nat.reduceEqDiff, Nat.reduceAdd, Nat.reduceMul, Nat.reduceLeDiff, Nat.reduceLT, reduceCtorEq, TFCoK, FR.out]; first | done | rfl), rfl⟩)
noncomputable def rdK (n : Nat) (o : Option (List Int)) : Oq × Option (List Int) :=
  if n = 1 ∨ n = 6 ∨ n = 7 then (⟨n, bstr (tS 40000 o).1, 0, 0, 0, k0, s0⟩, (tS 40000 o).2)
  else if n = 2 then (⟨2, bstr (tS 40000 o).1, (iS (tS 40000 o).2).1, ((nS (iS (tS 40000 o).2).2).1 : Nat), ((nS (nS (iS (tS 40000 o).2).2).2).1 : Nat), k0, s0⟩, (nS (nS (iS (tS 40000 o).2).2).2).2)
  else if n = 3 then (⟨3, ⟨#[]⟩, (iS o).1, 0, 0, k0, s0⟩, (iS o).2)
  else if n = 4 then (⟨4, ⟨#[]⟩, 0, 0, 0, (kgS o).1, s0⟩, (kgS o).2)
  else if n = 5 then (⟨5, ⟨#[]⟩, 0, 0, 0, k0, (sgS o).1⟩, (sgS o).2)
  else (⟨n, ⟨#[]⟩, 0, 0, 0, k0, s0⟩, o)
noncomputable def rdS (Z : List Int) : Oq × Option (List Int) := rdK (cS 9 (some Z)).1 (cS 9 (some Z)).2
noncomputable def rdG (Z : List Int) : Bool := decide ((rdS Z).2 = some []) && gsB (rdS Z).1
theorem iF_bd {zs r : List Int} {i : Int} (hb : Wi.By zs) (h : iF zs = some (i, r)) : -9223372036854775808 ≤ i ∧ i ≤ 9223372036854775807 := by
  unfold iF at h
  cases hg : gF 16 zs with
  | none => rw [hg] at h; cases h
  | some q =>
    obtain ⟨s, n, r'⟩ := q
    rw [hg] at h
    simp only at h
    split at h
    · cases h
    · rename_i hc
      simp only [Option.some.injEq, Prod.mk.injEq] at h
      obtain ⟨rfl, -⟩ := h
      split <;> omega
theorem kgS_z (o : Option (List Int)) : Kz (kgS o).1 := by
  unfold kgS
  split
  · exact ⟨by have := tS_len 96 (by omega) o; simp only; omega, by have := tS_len 96 (by omega) (tS 96 o).2; simp only; omega⟩
  · exact ⟨by decide, by decide⟩
theorem sgS_z (o : Option (List Int)) : Sz (sgS o).1 := by
  unfold sgS
  split
  · exact ⟨by have := tS_len 160 (by omega) o; simp only; omega, by have := tS_len 160 (by omega) (tS 160 o).2; simp only; omega⟩
  · exact ⟨by decide, by decide⟩
theorem k0_z : Kz k0 := ⟨by decide, by decide⟩
theorem s0_z : Sz s0 := ⟨by decide, by decide⟩
theorem cS_le (Z : List Int) : (cS 9 (some Z)).1 ≤ 9 := by
  cases h : cF 9 Z with
  | none => rw [show cS 9 (some Z) = (0, none) from rS_bad h]; simp
  | some p =>
    obtain ⟨n, r⟩ := p
    rw [show cS 9 (some Z) = (n, some r) from rS_good h]
    unfold cF at h
    cases hn : nF Z with
    | none => rw [hn] at h; cases h
    | some q =>
      obtain ⟨n', r'⟩ := q
      rw [hn] at h
      simp only at h
      split at h
      · cases h
      · cases h; simp only; omega
theorem cread_ct (Z : List Int) (hb : Wi.By Z) (hz : Z.length ≤ 10000) (n0 n1 : Nat) : ACt Tryd.prog 13 [.slz .u8 Z] [(0, .ro .u8 fsZ 256 n0), (1, .ro .u8 acZ 32 n1)]
    (fun x F => x = .tup [ov (if rdG Z = true then (rdS Z).1 else o0), iv .i64 (if rdG Z = true then 0 else 10)] ∧ F = [(0, .ro .u8 fsZ 256 n0), (1, .ro .u8 acZ 32 n1)]) := by
  have ok0 : okS (some Z) := ⟨hb, hz⟩
  have c1 := fun b => countS b 9 (by omega) (by omega) (some Z) ok0
  have ok1 : okS (cS 9 (some Z)).2 := rS_ok (cF_sf 9) ok0
  have hle := cS_le Z
  have hG : ∀ (op : Oq) (oE : Option (List Int)) (gg : Bool), rdS Z = (op, oE) → gsB op = gg → (((if oE = some [] then (0 : Int) else 10) == 0) && gg) = rdG Z := by
    intro op oE gg h1 h2
    unfold rdG
    rw [h1, ← h2]
    by_cases h : oE = some []
    · rw [if_pos h, decide_eq_true h]; rfl
    · rw [if_neg h, decide_eq_false h]; rfl
  have fin : ∀ (op : Oq) (oE : Option (List Int)), rdS Z = (op, oE) → ACt Tryd.prog 13 [.slz .u8 Z] [(0, .ro .u8 fsZ 256 n0), (1, .ro .u8 acZ 32 n1)] (fun x F => x = .tup [ov (if (((if oE = some [] then (0 : Int) else 10) == 0) && gsB op) = true then op else o0), iv .i64 (if (((if oE = some [] then (0 : Int) else 10) == 0) && gsB op) = true then 0 else 10)] ∧ F = [(0, .ro .u8 fsZ 256 n0), (1, .ro .u8 acZ 32 n1)]) →
      ACt Tryd.prog 13 [.slz .u8 Z] [(0, .ro .u8 fsZ 256 n0), (1, .ro .u8 acZ 32 n1)] (fun x F => x = .tup [ov (if rdG Z = true then (rdS Z).1 else o0), iv .i64 (if rdG Z = true then 0 else 10)] ∧ F = [(0, .ro .u8 fsZ 256 n0), (1, .ro .u8 acZ 32 n1)]) := by
    intro op oE h1 h
    rw [hG op oE _ h1 rfl] at h
    rw [h1]
    exact h
  have hr : rdS Z = rdK (cS 9 (some Z)).1 (cS 9 (some Z)).2 := rfl
  obtain ⟨oc, hoc⟩ : ∃ oc, oc = (cS 9 (some Z)).2 := ⟨_, rfl⟩
  rw [← hoc] at c1 ok1 hr
  obtain ⟨n, hn⟩ : ∃ n, n = (cS 9 (some Z)).1 := ⟨_, rfl⟩
  rw [← hn] at c1 hle hr
  clear hn hoc
  have okt : okS (tS 40000 oc).2 := rS_ok (tF_sf 40000) ok1
  have zz : ∀ {n : Int} {tx : ByteArray} {a g t : Int}, Oz ⟨n, tx, a, g, t, k0, s0⟩ := ⟨k0_z, s0_z⟩
  match n, hle with
  | 0, _ => exact fin _ _ hr (cread_0 n0 n1 fsZ acZ Z _ _ _ c1 (fun b => endS b oc) (goes_ct _ n0 n1 (.inl zz)))
  | 1, _ => exact fin _ _ hr (cread_1 n0 n1 fsZ acZ Z _ _ _ _ _ c1 (fun b => textS b 40000 (by omega) (by omega) oc ok1) (fun b => endS b _) (goes_ct _ n0 n1 (.inl zz)))
  | 2, _ => exact fin _ _ hr (cread_2 n0 n1 fsZ acZ Z _ _ _ _ _ _ _ _ _ _ _ c1 (fun b => textS b 40000 (by omega) (by omega) oc ok1) (fun b => intS b _ okt) (fun b => numS b _ (rS_ok iF_sf okt)) (fun b => numS b _ (rS_ok nF_sf (rS_ok iF_sf okt))) (fun b => endS b _) (goes_ct _ n0 n1 (.inl zz)))
  | 3, _ => exact fin _ _ hr (cread_3 n0 n1 fsZ acZ Z _ _ _ _ _ c1 (fun b => intS b oc ok1) (fun b => endS b _) (goes_ct _ n0 n1 (.inl zz)))
  | 4, _ => exact fin _ _ hr (cread_4 n0 n1 fsZ acZ Z _ _ _ _ _ c1 (fun b => kget_ct b oc ok1) (fun b => endS b _) (goes_ct _ n0 n1 (.inl ⟨kgS_z oc, s0_z⟩)))
  | 5, _ => exact fin _ _ hr (cread_5 n0 n1 fsZ acZ Z _ _ _ _ _ c1 (fun b => sget_ct b n0 n1 oc ok1) (fun b => endS b _) (goes_ct _ n0 n1 (.inl ⟨k0_z, sgS_z oc⟩)))
  | 6, _ => exact fin _ _ hr (cread_6 n0 n1 fsZ acZ Z _ _ _ _ _ c1 (fun b => textS b 40000 (by omega) (by omega) oc ok1) (fun b => endS b _) (goes_ct _ n0 n1 (.inl zz)))
  | 7, _ => exact fin _ _ hr (cread_7 n0 n1 fsZ acZ Z _ _ _ _ _ c1 (fun b => textS b 40000 (by omega) (by omega) oc ok1) (fun b => endS b _) (goes_ct _ n0 n1 (.inl zz)))
  | 8, _ => exact fin _ _ hr (cread_8 n0 n1 fsZ acZ Z _ _ _ c1 (fun b => endS b oc) (goes_ct _ n0 n1 (.inl zz)))
  | 9, _ => exact fin _ _ hr (cread_9 n0 n1 fsZ acZ Z _ _ _ c1 (fun b => endS b oc) (goes_ct _ n0 n1 (.inl zz)))
end Go.Proofs.YtpidkkgjgichdaaDoor
