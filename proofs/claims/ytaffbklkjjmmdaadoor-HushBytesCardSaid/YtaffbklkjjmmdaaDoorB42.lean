/-
  The walks and the laws that the statement leans on, part 42.
-/
import Derived.Test.YtaffbklkjjmmdaaDoorB10
import Derived.Test.YtaffbklkjjmmdaaDoorB12
import Derived.Test.YtaffbklkjjmmdaaDoorB41
namespace Go.Proofs.YtaffbklkjjmmdaaDoor
open Go Wi
set_option linter.unusedVariables false
set_option linter.unusedSimpArgs false
set_option linter.defProp false
def TFCoM :=
  And.intro (And.intro (And.intro (And.intro (And.intro tyc0 tyc2) (And.intro zmb2 tyc3)) (And.intro (And.intro zmb3 tyc5) (And.intro zmb5 (And.intro tyc9 zmb9)))) (And.intro (And.intro (And.intro tyc32 foff32_0) (And.intro fpart32_0 foff32_1)) (And.intro (And.intro fpart32_1 foff32_2) (And.intro fpart32_2 (And.intro foff32_3 fpart32_3))))) (And.intro (And.intro (And.intro (And.intro foff32_4 fpart32_4) (And.intro fe32 zmb32)) (And.intro (And.intro bldT32 tyc47) (And.intro elt47 (And.intro mkz47 apT47)))) (And.intro (And.intro (And.intro elk47 zmb47) (And.intro Tryd.underlying0 Tryd.underlying2)) (And.intro (And.intro Tryd.underlying3 Tryd.underlying5) (And.intro Tryd.underlying9 (And.intro Tryd.underlying32 Tryd.underlying47)))))
theorem Y1CoM {G R : Prop} (r : R) (h : R → G := by intro r; first | (apply WP.region; exact rvc_sound _ _ (Sm.out r)) | exact WP.drawN (cs := [2,5]) (k := 6) (bs := []) mixed (by decide +kernel) (by decide +kernel) (by decide +kernel) (by decide +kernel) (Sm.out r) | exact WP.drawK rfl mixed (by decide +kernel) (Sm.out r) | (apply WP.block; exact r) | (apply WP.skip; exact Yq r) | (apply WP.exit; exact Yq r) | (apply WP.ret; exact Sm.out r) | exact WP.cond rfl (fun _ => r) (fun hg => absurd hg (by decide)) | exact WP.cond rfl (fun hg => absurd hg (by decide)) (fun _ => r) | exact Rt.mk (And.intro (fun _ => Sm.out r) fun hg => absurd hg (by decide)) | exact Rt.mk (And.intro (fun hg => absurd hg (by decide)) fun _ => Sm.out r)) : G := h r
theorem YzCoM {G R : Prop} (r : R) (h : R → G := by intro r; first | (apply ExG.no; exact Sm.out r) | (apply Or.inl; apply ExG.no; exact Sm.out r) | exact Or.inl (And.intro (fun hg => absurd hg (by decide)) (ExG.no (Sm.out r)))) : G := h r
theorem rtx_ct (s : ByteArray) (hs : s.size ≤ 10000) : ACt Tryd.prog 53 [.lit (.string s)] [] (Row .u8 5 (txL s)) := refText_ct s hs
set_option maxRecDepth 8000 in
set_option maxHeartbeats 4000000 in
theorem rsput_ct (s : Sl) (hs : Sb s) : ACt Tryd.prog 27 [siv s] [] (Row .u8 5 (sL s)) := by
  have m1 := hs.z.n
  have m2 := hs.z.g
  have mw := hs.w
  have mf := hs.f
  have mt := hs.t
  obtain ⟨nm, gl, w, f, t⟩ := s
  simp only at m1 m2 mw mf mt
  have hT : sL ⟨nm, gl, w, f, t⟩ = txL nm ++ txL gl ++ intL w ++ intL f ++ intL t := by simp [sL]
  rw [hT]
  have l1 := txL_len nm (by omega)
  have l2 := txL_len gl (by omega)
  have l3 := intL_len w mw.1 mw.2
  have l4 := intL_len f mf.1 mf.2
  have l5 := intL_len t mt.1 mt.2
  have c1 := rtx_ct nm (by omega)
  have c2 := rtx_ct gl (by omega)
  have c3 := refInt_ct w mw.1 mw.2
  have c4 := refInt_ct f mf.1 mf.2
  have c5 := refInt_ct t mt.1 mt.2
  obtain ⟨D1, hD1⟩ : ∃ D, D = txL nm := ⟨_, rfl⟩
  rw [← hD1] at c1 l1 ⊢
  obtain ⟨D2, hD2⟩ : ∃ D, D = txL gl := ⟨_, rfl⟩
  rw [← hD2] at c2 l2 ⊢
  obtain ⟨D3, hD3⟩ : ∃ D, D = intL w := ⟨_, rfl⟩
  rw [← hD3] at c3 l3 ⊢
  obtain ⟨D4, hD4⟩ : ∃ D, D = intL f := ⟨_, rfl⟩
  rw [← hD4] at c4 l4 ⊢
  obtain ⟨D5, hD5⟩ : ∃ D, D = intL t := ⟨_, rfl⟩
  rw [← hD5] at c5 l5 ⊢
  obtain ⟨T2, hT2⟩ : ∃ T, D1 ++ D2 = T := ⟨_, rfl⟩
  have hTl2 : T2.length = D1.length + D2.length := by rw [← hT2, List.length_append]
  rw [hT2]
  obtain ⟨T3, hT3⟩ : ∃ T, T2 ++ D3 = T := ⟨_, rfl⟩
  have hTl3 : T3.length = T2.length + D3.length := by rw [← hT3, List.length_append]
  rw [hT3]
  obtain ⟨T4, hT4⟩ : ∃ T, T3 ++ D4 = T := ⟨_, rfl⟩
  have hTl4 : T4.length = T3.length + D4.length := by rw [← hT4, List.length_append]
  rw [hT4]
  obtain ⟨T5, hT5⟩ : ∃ T, T4 ++ D5 = T := ⟨_, rfl⟩
  have hTl5 : T5.length = T4.length + D5.length := by rw [← hT5, List.length_append]
  rw [hT5]
  have tk : ∀ L : List Int, L.take L.length = L := fun L => List.take_length
  refine ACt.intro Tryd.func27 rfl (by kernel_rfl) (by simp [Tryd.ntmps27]) (fun cx => ?_)
  simp only [argE, Tryd.ntmps27, Tryd.results27]
  first | (have FRx := FR; clear FRx) | have FR := fr0S
  have FA := Sm.mk (And.intro TFCoM (And.intro tk (And.intro hT2 (And.intro hT3 (And.intro hT4 hT5)))))
  repeat' first | (apply Sm.mk; refine Ys ?_) | refine WP.seq fun K hK => ?_ | (apply Ob.mk; exact Yo) | refine And.intro (Ob.out ?_) ?_ | refine Y1CoM ?_ | (refine WCt.row (by simp only [hget, ↓reduceIte, FR.out, tk, hT2, hT3, hT4, hT5]; first | done | rfl) (c1) (Sm.out ?_)) | (refine WCt.mkrow (c1) (Sm.out ?_)) | (refine CallV.row (by simp only [hget, ↓reduceIte, FR.out, tk, hT2, hT3, hT4, hT5]; first | done | rfl) (c1) (Sm.out ?_)) | refine CallV.mkrow (c1) (Sm.out ?_) | (refine CallV.upd (by simp only [hget, ↓reduceIte, FR.out, tk, hT2, hT3, hT4, hT5]; first | done | rfl) (c1) (Sm.out ?_)) | refine CallV.mkobj (c1) (Sm.out ?_) | (first | refine CallV.fn (c1) (Sm.out ?_) | refine ExF.mk (c1) (Sm.out ?_) | refine ExG.mk (fun _ => c1) (Sm.out ?_) | refine ExG.mkJ (fun _ => c1) (Sm.out ?_) | refine ExG.mkI (Ob.out ?_) (fun _ => c1) (Sm.out ?_)) | (refine WCt.row (by simp only [hget, ↓reduceIte, FR.out, tk, hT2, hT3, hT4, hT5]; first | done | rfl) (c2) (Sm.out ?_)) | (refine WCt.mkrow (c2) (Sm.out ?_)) | (refine CallV.row (by simp only [hget, ↓reduceIte, FR.out, tk, hT2, hT3, hT4, hT5]; first | done | rfl) (c2) (Sm.out ?_)) | refine CallV.mkrow (c2) (Sm.out ?_) | (refine CallV.upd (by simp only [hget, ↓reduceIte, FR.out, tk, hT2, hT3, hT4, hT5]; first | done | rfl) (c2) (Sm.out ?_)) | refine CallV.mkobj (c2) (Sm.out ?_) | (first | refine CallV.fn (c2) (Sm.out ?_) | refine ExF.mk (c2) (Sm.out ?_) | refine ExG.mk (fun _ => c2) (Sm.out ?_) | refine ExG.mkJ (fun _ => c2) (Sm.out ?_) | refine ExG.mkI (Ob.out ?_) (fun _ => c2) (Sm.out ?_)) | (refine WCt.row (by simp only [hget, ↓reduceIte, FR.out, tk, hT2, hT3, hT4, hT5]; first | done | rfl) (c3) (Sm.out ?_)) | (refine WCt.mkrow (c3) (Sm.out ?_)) | (refine CallV.row (by simp only [hget, ↓reduceIte, FR.out, tk, hT2, hT3, hT4, hT5]; first | done | rfl) (c3) (Sm.out ?_)) | refine CallV.mkrow (c3) (Sm.out ?_) | (refine CallV.upd (by simp only [hget, ↓reduceIte, FR.out, tk, hT2, hT3, hT4, hT5]; first | done | rfl) (c3) (Sm.out ?_)) | refine CallV.mkobj (c3) (Sm.out ?_) | (first | refine CallV.fn (c3) (Sm.out ?_) | refine ExF.mk (c3) (Sm.out ?_) | refine ExG.mk (fun _ => c3) (Sm.out ?_) | refine ExG.mkJ (fun _ => c3) (Sm.out ?_) | refine ExG.mkI (Ob.out ?_) (fun _ => c3) (Sm.out ?_)) | (refine WCt.row (by simp only [hget, ↓reduceIte, FR.out, tk, hT2, hT3, hT4, hT5]; first | done | rfl) (c4) (Sm.out ?_)) | (refine WCt.mkrow (c4) (Sm.out ?_)) | (refine CallV.row (by simp only [hget, ↓reduceIte, FR.out, tk, hT2, hT3, hT4, hT5]; first | done | rfl) (c4) (Sm.out ?_)) | refine CallV.mkrow (c4) (Sm.out ?_) | (refine CallV.upd (by simp only [hget, ↓reduceIte, FR.out, tk, hT2, hT3, hT4, hT5]; first | done | rfl) (c4) (Sm.out ?_)) | refine CallV.mkobj (c4) (Sm.out ?_) | (first | refine CallV.fn (c4) (Sm.out ?_) | refine ExF.mk (c4) (Sm.out ?_) | refine ExG.mk (fun _ => c4) (Sm.out ?_) | refine ExG.mkJ (fun _ => c4) (Sm.out ?_) | refine ExG.mkI (Ob.out ?_) (fun _ => c4) (Sm.out ?_)) | (refine WCt.row (by simp only [hget, ↓reduceIte, FR.out, tk, hT2, hT3, hT4, hT5]; first | done | rfl) (c5) (Sm.out ?_)) | (refine WCt.mkrow (c5) (Sm.out ?_)) | (refine CallV.row (by simp only [hget, ↓reduceIte, FR.out, tk, hT2, hT3, hT4, hT5]; first | done | rfl) (c5) (Sm.out ?_)) | refine CallV.mkrow (c5) (Sm.out ?_) | (refine CallV.upd (by simp only [hget, ↓reduceIte, FR.out, tk, hT2, hT3, hT4, hT5]; first | done | rfl) (c5) (Sm.out ?_)) | refine CallV.mkobj (c5) (Sm.out ?_) | (first | refine CallV.fn (c5) (Sm.out ?_) | refine ExF.mk (c5) (Sm.out ?_) | refine ExG.mk (fun _ => c5) (Sm.out ?_) | refine ExG.mkJ (fun _ => c5) (Sm.out ?_) | refine ExG.mkI (Ob.out ?_) (fun _ => c5) (Sm.out ?_)) | refine YzCoM ?_ | (refine WP.cond rfl (fun hc => ?_) (fun hc => ?_) <;> (try simp only [ZC, reduceCtorEq, ZD] at hc) <;> (try exact absurd hc (by decide)) <;> (try (exfalso; omega))) | refine Rt.mk (And.intro (fun hg => Sm.out ?_) fun hg => Sm.out ?_) | (refine Nu.mk ?_; first | (fail_if_success have := nb1); intro nb1 | (fail_if_success have := nb2); intro nb2 | (fail_if_success have := nb3); intro nb3 | (fail_if_success have := nb4); intro nb4 | (fail_if_success have := nb5); intro nb5 | (fail_if_success have := nb6); intro nb6 | (fail_if_success have := nb7); intro nb7 | (fail_if_success have := nb8); intro nb8 | (fail_if_success have := nb9); intro nb9 | (fail_if_success have := nb10); intro nb10 | (fail_if_success have := nb11); intro nb11 | (fail_if_success have := nb12); intro nb12 | (fail_if_success have := nb13); intro nb13 | (fail_if_success have := nb14); intro nb14 | (fail_if_success have := nb15); intro nb15 | (fail_if_success have := nb16); intro nb16 | (fail_if_success have := nb17); intro nb17 | (fail_if_success have := nb18); intro nb18 | (fail_if_success have := nb19); intro nb19 | (fail_if_success have := nb20); intro nb20 | intro nbz) | (apply Yfr; refine Yf FR fun hFRb FR => ?_) | refine Two.mk ?_ ?_ | (apply Yxc; exact Yx) | refine Cs.mk fun hcs => Sm.out ?_ | go_step | omega | (simp only [maxLen_eq]; omega) | exact trivial | refine Or.inr (Rt.mk (And.intro (fun hg => Sm.out ?_) fun hg => Sm.out ?_))
  all_goals (refine OutQ.row (by simp only [resv, ZK, look, loadv, loadn, loadnm, load1, load1m, hget, ↓reduceIte, Nat.reduceEqDiff, Nat.reduceAdd, Nat.reduceMul, Nat.reduceLeDiff, Nat.reduceLT, reduceCtorEq, TFCoM, FR.out]) (by simp only [resv, resA, ZK, look, loadv, loadn, loadnm, load1, load1m, hget, ↓reduceIte, Nat.reduceEqDiff, Nat.reduceAdd, Nat.reduceMul, Nat.reduceLeDiff, Nat.reduceLT, reduceCtorEq, TFCoM, FR.out]; first | done | rfl) (by simp only [hget, ↓reduceIte, if_true, if_false, FR.out]; first | done | rfl) ?_ ?_ ?_ ?_ <;> first | omega | (simp only [maxLen_eq]; omega) | skip)
  all_goals first | omega | rfl
end Go.Proofs.YtaffbklkjjmmdaaDoor
