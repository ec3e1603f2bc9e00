/-
  The walks and the laws that the statement leans on, part 44.
-/
import Derived.Test.YtfknbndmabogjaaDoorE10
import Derived.Test.YtfknbndmabogjaaDoorE32
import Derived.Test.YtfknbndmabogjaaDoorE43
namespace Go.Proofs.YtfknbndmabogjaaDoor
open Go Wi
set_option linter.unusedVariables false
set_option linter.unusedSimpArgs false
set_option linter.defProp false
def TFCoM :=
  And.intro (And.intro (And.intro (And.intro (And.intro tyc0 tyc4) (And.intro zmb4 tyc5)) (And.intro (And.intro zmb5 tyc9) (And.intro zmb9 (And.intro tyc25 zmb25)))) (And.intro (And.intro (And.intro tyc29 foff29_0) (And.intro fpart29_0 foff29_1)) (And.intro (And.intro fpart29_1 foff29_2) (And.intro fpart29_2 (And.intro foff29_3 fpart29_3))))) (And.intro (And.intro (And.intro (And.intro foff29_4 fpart29_4) (And.intro fe29 zmb29)) (And.intro (And.intro bldT29 tyc53) (And.intro elt53 (And.intro mkz53 apT53)))) (And.intro (And.intro (And.intro elk53 zmb53) (And.intro Tryd.underlying0 Tryd.underlying4)) (And.intro (And.intro Tryd.underlying5 Tryd.underlying9) (And.intro Tryd.underlying25 (And.intro Tryd.underlying29 Tryd.underlying53)))))
theorem Y1CoM {G R : Prop} (r : R) (h : R → G := by intro r; first | (apply WP.region; exact rvc_sound _ _ (Sm.out r)) | exact WP.drawN (cs := [2,5]) (k := 6) (bs := []) mixed (by decide +kernel) (by decide +kernel) (by decide +kernel) (by decide +kernel) (Sm.out r) | exact WP.drawK rfl mixed (by decide +kernel) (Sm.out r) | (apply WP.block; exact r) | (apply WP.skip; exact Yq r) | (apply WP.exit; exact Yq r) | (apply WP.ret; exact Sm.out r) | exact WP.cond rfl (fun _ => r) (fun hg => absurd hg (by decide)) | exact WP.cond rfl (fun hg => absurd hg (by decide)) (fun _ => r) | exact Rt.mk (And.intro (fun _ => Sm.out r) fun hg => absurd hg (by decide)) | exact Rt.mk (And.intro (fun hg => absurd hg (by decide)) fun _ => Sm.out r)) : G := h r
theorem YzCoM {G R : Prop} (r : R) (h : R → G := by intro r; first | (apply ExG.no; exact Sm.out r) | (apply Or.inl; apply ExG.no; exact Sm.out r) | exact Or.inl (And.intro (fun hg => absurd hg (by decide)) (ExG.no (Sm.out r)))) : G := h r
set_option maxRecDepth 8000 in
theorem rflag_ct (f : Bool) : ACt Tryd.prog 91 [bv f] [] (Fn (iv .u8 (if f then 1 else 0))) := by
  cases f
  · refine ACt.intro Tryd.func91 rfl (by kernel_rfl) (by simp [Tryd.ntmps91]) (fun cx => ?_)
    simp only [argE, Tryd.ntmps91, Tryd.results91]
    first | (have FRx := FR; clear FRx) | have FR := fr0S
    have FA := Sm.mk (TFCoM)
    repeat' first | (apply Sm.mk; refine Ys ?_) | refine WP.seq fun K hK => ?_ | (apply Ob.mk; exact Yo) | refine And.intro (Ob.out ?_) ?_ | refine Y1CoM ?_ | refine YzCoM ?_ | (refine WP.cond rfl (fun hc => ?_) (fun hc => ?_) <;> (try simp only [ZC, reduceCtorEq, ZD] at hc) <;> (try exact absurd hc (by decide)) <;> (try (exfalso; omega))) | refine Rt.mk (And.intro (fun hg => Sm.out ?_) fun hg => Sm.out ?_) | (refine Nu.mk ?_; first | (fail_if_success have := nb1); intro nb1 | (fail_if_success have := nb2); intro nb2 | (fail_if_success have := nb3); intro nb3 | (fail_if_success have := nb4); intro nb4 | (fail_if_success have := nb5); intro nb5 | (fail_if_success have := nb6); intro nb6 | (fail_if_success have := nb7); intro nb7 | (fail_if_success have := nb8); intro nb8 | (fail_if_success have := nb9); intro nb9 | (fail_if_success have := nb10); intro nb10 | (fail_if_success have := nb11); intro nb11 | (fail_if_success have := nb12); intro nb12 | (fail_if_success have := nb13); intro nb13 | (fail_if_success have := nb14); intro nb14 | (fail_if_success have := nb15); intro nb15 | (fail_if_success have := nb16); intro nb16 | (fail_if_success have := nb17); intro nb17 | (fail_if_success have := nb18); intro nb18 | (fail_if_success have := nb19); intro nb19 | (fail_if_success have := nb20); intro nb20 | intro nbz) | (apply Yfr; refine Yf FR fun hFRb FR => ?_) | refine Two.mk ?_ ?_ | (apply Yxc; exact Yx) | refine Cs.mk fun hcs => Sm.out ?_ | go_step | omega | (simp only [maxLen_eq]; omega) | exact trivial | refine Or.inr (Rt.mk (And.intro (fun hg => Sm.out ?_) fun hg => Sm.out ?_))
    (refine Yg ?_; try exact trivial)
  · refine ACt.intro Tryd.func91 rfl (by kernel_rfl) (by simp [Tryd.ntmps91]) (fun cx => ?_)
    simp only [argE, Tryd.ntmps91, Tryd.results91]
    first | (have FRx := FR; clear FRx) | have FR := fr0S
    have FA := Sm.mk (TFCoM)
    repeat' first | (apply Sm.mk; refine Ys ?_) | refine WP.seq fun K hK => ?_ | (apply Ob.mk; exact Yo) | refine And.intro (Ob.out ?_) ?_ | refine Y1CoM ?_ | refine YzCoM ?_ | (refine WP.cond rfl (fun hc => ?_) (fun hc => ?_) <;> (try simp only [ZC, reduceCtorEq, ZD] at hc) <;> (try exact absurd hc (by decide)) <;> (try (exfalso; omega))) | refine Rt.mk (And.intro (fun hg => Sm.out ?_) fun hg => Sm.out ?_) | (refine Nu.mk ?_; first | (fail_if_success have := nb1); intro nb1 | (fail_if_success have := nb2); intro nb2 | (fail_if_success have := nb3); intro nb3 | (fail_if_success have := nb4); intro nb4 | (fail_if_success have := nb5); intro nb5 | (fail_if_success have := nb6); intro nb6 | (fail_if_success have := nb7); intro nb7 | (fail_if_success have := nb8); intro nb8 | (fail_if_success have := nb9); intro nb9 | (fail_if_success have := nb10); intro nb10 | (fail_if_success have := nb11); intro nb11 | (fail_if_success have := nb12); intro nb12 | (fail_if_success have := nb13); intro nb13 | (fail_if_success have := nb14); intro nb14 | (fail_if_success have := nb15); intro nb15 | (fail_if_success have := nb16); intro nb16 | (fail_if_success have := nb17); intro nb17 | (fail_if_success have := nb18); intro nb18 | (fail_if_success have := nb19); intro nb19 | (fail_if_success have := nb20); intro nb20 | intro nbz) | (apply Yfr; refine Yf FR fun hFRb FR => ?_) | refine Two.mk ?_ ?_ | (apply Yxc; exact Yx) | refine Cs.mk fun hcs => Sm.out ?_ | go_step | omega | (simp only [maxLen_eq]; omega) | exact trivial | refine Or.inr (Rt.mk (And.intro (fun hg => Sm.out ?_) fun hg => Sm.out ?_))
    (refine Yg ?_; try exact trivial)
theorem rtx_ct (s : ByteArray) (hs : s.size ≤ 100000) : ACt Tryd.prog 90 [.lit (.string s)] [] (Row .u8 5 (txL s)) := refText_ct s hs
set_option maxRecDepth 8000 in
set_option maxHeartbeats 4000000 in
theorem rkput_ct (k : Ky) (hk : Kb k) : ACt Tryd.prog 67 [kv k] [] (Row .u8 5 (kL k)) := by
  have m1 := hk.z.g
  have m2 := hk.z.r
  have m3 := hk.e0
  have m4 := hk.e1
  obtain ⟨kg, kr, kp, ke, ks⟩ := k
  simp only at m1 m2 m3 m4
  obtain ⟨e, rfl⟩ := Int.eq_ofNat_of_zero_le m3
  have hT : kL ⟨kg, kr, kp, (e : Int), ks⟩ = txL kg ++ txL kr ++ flL kp ++ putL 0 e ++ flL ks := by simp [kL]
  rw [hT]
  have l1 := txL_len kg (by omega)
  have l2 := txL_len kr (by omega)
  have l4 := putL_len 0 e (by omega)
  have c1 := rtx_ct kg (by omega)
  have c2 := rtx_ct kr (by omega)
  have c3 := rflag_ct kp
  have c4 := refNum_ct e (by omega)
  have c5 := rflag_ct ks
  obtain ⟨x3, hx3⟩ : ∃ x : Int, x = (if kp = true then 1 else 0) := ⟨_, rfl⟩
  obtain ⟨x5, hx5⟩ : ∃ x : Int, x = (if ks = true then 1 else 0) := ⟨_, rfl⟩
  unfold flL
  rw [← hx3] at c3 ⊢
  rw [← hx5] at c5 ⊢
  obtain ⟨D1, hD1⟩ : ∃ D, D = txL kg := ⟨_, rfl⟩
  rw [← hD1] at c1 l1 ⊢
  obtain ⟨D2, hD2⟩ : ∃ D, D = txL kr := ⟨_, rfl⟩
  rw [← hD2] at c2 l2 ⊢
  obtain ⟨D4, hD4⟩ : ∃ D, D = putL 0 e := ⟨_, rfl⟩
  rw [← hD4] at c4 l4 ⊢
  obtain ⟨T2, hT2⟩ : ∃ T, D1 ++ D2 = T := ⟨_, rfl⟩
  have hTl2 : T2.length = D1.length + D2.length := by rw [← hT2, List.length_append]
  rw [hT2]
  obtain ⟨T3, hT3⟩ : ∃ T, T2 ++ [x3] = T := ⟨_, rfl⟩
  have hTl3 : T3.length = T2.length + 1 := by rw [← hT3, List.length_append]; rfl
  rw [hT3]
  obtain ⟨T4, hT4⟩ : ∃ T, T3 ++ D4 = T := ⟨_, rfl⟩
  have hTl4 : T4.length = T3.length + D4.length := by rw [← hT4, List.length_append]
  rw [hT4]
  obtain ⟨T5, hT5⟩ : ∃ T, T4 ++ [x5] = T := ⟨_, rfl⟩
  have hTl5 : T5.length = T4.length + 1 := by rw [← hT5, List.length_append]; rfl
  rw [hT5]
  have tk : ∀ L : List Int, L.take L.length = L := fun L => List.take_length
  refine ACt.intro Tryd.func67 rfl (by kernel_rfl) (by simp [Tryd.ntmps67]) (fun cx => ?_)
  simp only [argE, Tryd.ntmps67, Tryd.results67]
  first | (have FRx := FR; clear FRx) | have FR := fr0S
  have FA := Sm.mk (And.intro TFCoM (And.intro tk (And.intro hT2 (And.intro hT3 (And.intro hT4 hT5)))))
  repeat' first | (apply Sm.mk; refine Ys ?_) | refine WP.seq fun K hK => ?_ | (apply Ob.mk; exact Yo) | refine And.intro (Ob.out ?_) ?_ | refine Y1CoM ?_ | (refine WCt.row (by simp only [hget, ↓reduceIte, FR.out, tk, hT2, hT3, hT4, hT5]; first | done | rfl) (c1) (Sm.out ?_)) | (refine WCt.mkrow (c1) (Sm.out ?_)) | (refine CallV.row (by simp only [hget, ↓reduceIte, FR.out, tk, hT2, hT3, hT4, hT5]; first | done | rfl) (c1) (Sm.out ?_)) | refine CallV.mkrow (c1) (Sm.out ?_) | (refine CallV.upd (by simp only [hget, ↓reduceIte, FR.out, tk, hT2, hT3, hT4, hT5]; first | done | rfl) (c1) (Sm.out ?_)) | refine CallV.mkobj (c1) (Sm.out ?_) | (first | refine CallV.fn (c1) (Sm.out ?_) | refine ExF.mk (c1) (Sm.out ?_) | refine ExG.mk (fun _ => c1) (Sm.out ?_) | refine ExG.mkJ (fun _ => c1) (Sm.out ?_) | refine ExG.mkI (Ob.out ?_) (fun _ => c1) (Sm.out ?_)) | (refine WCt.row (by simp only [hget, ↓reduceIte, FR.out, tk, hT2, hT3, hT4, hT5]; first | done | rfl) (c2) (Sm.out ?_)) | (refine WCt.mkrow (c2) (Sm.out ?_)) | (refine CallV.row (by simp only [hget, ↓reduceIte, FR.out, tk, hT2, hT3, hT4, hT5]; first | done | rfl) (c2) (Sm.out ?_)) | refine CallV.mkrow (c2) (Sm.out ?_) | (refine CallV.upd (by simp only [hget, ↓reduceIte, FR.out, tk, hT2, hT3, hT4, hT5]; first | done | rfl) (c2) (Sm.out ?_)) | refine CallV.mkobj (c2) (Sm.out ?_) | (first | refine CallV.fn (c2) (Sm.out ?_) | refine ExF.mk (c2) (Sm.out ?_) | refine ExG.mk (fun _ => c2) (Sm.out ?_) | refine ExG.mkJ (fun _ => c2) (Sm.out ?_) | refine ExG.mkI (Ob.out ?_) (fun _ => c2) (Sm.out ?_)) | (refine WCt.row (by simp only [hget, ↓reduceIte, FR.out, tk, hT2, hT3, hT4, hT5]; first | done | rfl) (c3) (Sm.out ?_)) | (refine WCt.mkrow (c3) (Sm.out ?_)) | (refine CallV.row (by simp only [hget, ↓reduceIte, FR.out, tk, hT2, hT3, hT4, hT5]; first | done | rfl) (c3) (Sm.out ?_)) | refine CallV.mkrow (c3) (Sm.out ?_) | (refine CallV.upd (by simp only [hget, ↓reduceIte, FR.out, tk, hT2, hT3, hT4, hT5]; first | done | rfl) (c3) (Sm.out ?_)) | refine CallV.mkobj (c3) (Sm.out ?_) | (first | refine CallV.fn (c3) (Sm.out ?_) | refine ExF.mk (c3) (Sm.out ?_) | refine ExG.mk (fun _ => c3) (Sm.out ?_) | refine ExG.mkJ (fun _ => c3) (Sm.out ?_) | refine ExG.mkI (Ob.out ?_) (fun _ => c3) (Sm.out ?_)) | (refine WCt.row (by simp only [hget, ↓reduceIte, FR.out, tk, hT2, hT3, hT4, hT5]; first | done | rfl) (c4) (Sm.out ?_)) | (refine WCt.mkrow (c4) (Sm.out ?_)) | (refine CallV.row (by simp only [hget, ↓reduceIte, FR.out, tk, hT2, hT3, hT4, hT5]; first | done | rfl) (c4) (Sm.out ?_)) | refine CallV.mkrow (c4) (Sm.out ?_) | (refine CallV.upd (by simp only [hget, ↓reduceIte, FR.out, tk, hT2, hT3, hT4, hT5]; first | done | rfl) (c4) (Sm.out ?_)) | refine CallV.mkobj (c4) (Sm.out ?_) | (first | refine CallV.fn (c4) (Sm.out ?_) | refine ExF.mk (c4) (Sm.out ?_) | refine ExG.mk (fun _ => c4) (Sm.out ?_) | refine ExG.mkJ (fun _ => c4) (Sm.out ?_) | refine ExG.mkI (Ob.out ?_) (fun _ => c4) (Sm.out ?_)) | (refine WCt.row (by simp only [hget, ↓reduceIte, FR.out, tk, hT2, hT3, hT4, hT5]; first | done | rfl) (c5) (Sm.out ?_)) | (refine WCt.mkrow (c5) (Sm.out ?_)) | (refine CallV.row (by simp only [hget, ↓reduceIte, FR.out, tk, hT2, hT3, hT4, hT5]; first | done | rfl) (c5) (Sm.out ?_)) | refine CallV.mkrow (c5) (Sm.out ?_) | (refine CallV.upd (by simp only [hget, ↓reduceIte, FR.out, tk, hT2, hT3, hT4, hT5]; first | done | rfl) (c5) (Sm.out ?_)) | refine CallV.mkobj (c5) (Sm.out ?_) | (first | refine CallV.fn (c5) (Sm.out ?_) | refine ExF.mk (c5) (Sm.out ?_) | refine ExG.mk (fun _ => c5) (Sm.out ?_) | refine ExG.mkJ (fun _ => c5) (Sm.out ?_) | refine ExG.mkI (Ob.out ?_) (fun _ => c5) (Sm.out ?_)) | refine YzCoM ?_ | (refine WP.cond rfl (fun hc => ?_) (fun hc => ?_) <;> (try simp only [ZC, reduceCtorEq, ZD] at hc) <;> (try exact absurd hc (by decide)) <;> (try (exfalso; omega))) | refine Rt.mk (And.intro (fun hg => Sm.out ?_) fun hg => Sm.out ?_) | (refine Nu.mk ?_; first | (fail_if_success have := nb1); intro nb1 | (fail_if_success have := nb2); intro nb2 | (fail_if_success have := nb3); intro nb3 | (fail_if_success have := nb4); intro nb4 | (fail_if_success have := nb5); intro nb5 | (fail_if_success have := nb6); intro nb6 | (fail_if_success have := nb7); intro nb7 | (fail_if_success have := nb8); intro nb8 | (fail_if_success have := nb9); intro nb9 | (fail_if_success have := nb10); intro nb10 | (fail_if_success have := nb11); intro nb11 | (fail_if_success have := nb12); intro nb12 | (fail_if_success have := nb13); intro nb13 | (fail_if_success have := nb14); intro nb14 | (fail_if_success have := nb15); intro nb15 | (fail_if_success have := nb16); intro nb16 | (fail_if_success have := nb17); intro nb17 | (fail_if_success have := nb18); intro nb18 | (fail_if_success have := nb19); intro nb19 | (fail_if_success have := nb20); intro nb20 | intro nbz) | (apply Yfr; refine Yf FR fun hFRb FR => ?_) | refine Two.mk ?_ ?_ | (apply Yxc; exact Yx) | refine Cs.mk fun hcs => Sm.out ?_ | go_step | omega | (simp only [maxLen_eq]; omega) | exact trivial | refine Or.inr (Rt.mk (And.intro (fun hg => Sm.out ?_) fun hg => Sm.out ?_))
  all_goals (refine OutQ.row (by simp only [resv, ZK, look, loadv, loadn, loadnm, load1, load1m, hget, ↓reduceIte, Nat.reduceEqDiff, Nat.reduceAdd, Nat.reduceMul, Nat.reduceLeDiff, Nat.reduceLT, reduceCtorEq, TFCoM, FR.out]) (by simp only [resv, resA, ZK, look, loadv, loadn, loadnm, load1, load1m, hget, ↓reduceIte, Nat.reduceEqDiff, Nat.reduceAdd, Nat.reduceMul, Nat.reduceLeDiff, Nat.reduceLT, reduceCtorEq, TFCoM, FR.out]; first | done | rfl) (by simp only [hget, ↓reduceIte, if_true, if_false, FR.out]; first | done | rfl) ?_ ?_ ?_ ?_ <;> first | omega | (simp only [maxLen_eq]; omega) | skip)
  all_goals first | omega | rfl
end Go.Proofs.YtfknbndmabogjaaDoor
