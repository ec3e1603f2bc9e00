/-
  The walks and the laws that the statement leans on, part 40.
-/
import Derived.Test.YtaffbklkjjmmdaaDoorB10
import Derived.Test.YtaffbklkjjmmdaaDoorB24
import Derived.Test.YtaffbklkjjmmdaaDoorB39
namespace Go.Proofs.YtaffbklkjjmmdaaDoor
open Go Wi
set_option linter.unusedVariables false
set_option linter.unusedSimpArgs false
set_option linter.defProp false
def TFCoD :=
  And.intro (And.intro (And.intro (And.intro (And.intro tyc0 tyc2) (And.intro zmb2 tyc3)) (And.intro (And.intro zmb3 tyc5) (And.intro zmb5 (And.intro tyc9 zmb9)))) (And.intro (And.intro (And.intro tyc32 foff32_0) (And.intro fpart32_0 foff32_1)) (And.intro (And.intro fpart32_1 foff32_2) (And.intro fpart32_2 (And.intro foff32_3 fpart32_3))))) (And.intro (And.intro (And.intro (And.intro foff32_4 fpart32_4) (And.intro fe32 zmb32)) (And.intro (And.intro bldT32 tyc47) (And.intro elt47 (And.intro mkz47 apT47)))) (And.intro (And.intro (And.intro elk47 zmb47) (And.intro Tryd.underlying0 Tryd.underlying2)) (And.intro (And.intro Tryd.underlying3 Tryd.underlying5) (And.intro Tryd.underlying9 (And.intro Tryd.underlying32 Tryd.underlying47)))))
theorem Y1CoD {G R : Prop} (r : R) (h : R → G := by intro r; first | (apply WP.region; exact rvc_sound _ _ (Sm.out r)) | exact WP.drawN (cs := [3,6]) (k := 7) (bs := [nb6]) mixed (by decide +kernel) (by decide +kernel) (by decide +kernel) (by decide +kernel) (Sm.out r) | exact WP.drawN (cs := [3,6,9]) (k := 10) (bs := [nb4]) mixed (by decide +kernel) (by decide +kernel) (by decide +kernel) (by decide +kernel) (Sm.out r) | exact WP.drawN (cs := [3,6]) (k := 7) (bs := [b]) mixed (by decide +kernel) (by decide +kernel) (by decide +kernel) (by decide +kernel) (Sm.out r) | exact WP.drawN (cs := [3,6,9]) (k := 10) (bs := [b]) mixed (by decide +kernel) (by decide +kernel) (by decide +kernel) (by decide +kernel) (Sm.out r) | exact WP.drawK rfl mixed (by decide +kernel) (Sm.out r) | (apply WP.block; exact r) | (apply WP.skip; exact Yq r) | (apply WP.exit; exact Yq r) | (apply WP.ret; exact Sm.out r) | exact WP.cond rfl (fun _ => r) (fun hg => absurd hg (by decide)) | exact WP.cond rfl (fun hg => absurd hg (by decide)) (fun _ => r) | exact Rt.mk (And.intro (fun _ => Sm.out r) fun hg => absurd hg (by decide)) | exact Rt.mk (And.intro (fun hg => absurd hg (by decide)) fun _ => Sm.out r)) : G := h r
theorem YzCoD {G R : Prop} (r : R) (h : R → G := by intro r; first | (apply ExG.no; exact Sm.out r) | (apply Or.inl; apply ExG.no; exact Sm.out r) | exact Or.inl (And.intro (fun hg => absurd hg (by decide)) (ExG.no (Sm.out r)))) : G := h r
def txL (s : ByteArray) : List Int := putL 0 s.size ++ strL s
theorem txL_len (s : ByteArray) (h : s.size ≤ 10000) : (txL s).length ≤ s.size + 9 := by
  have := putL_len 0 s.size (by omega)
  unfold txL; rw [List.length_append, strL_len]; omega
theorem intL_len (i : Int) (h1 : -9223372036854775808 ≤ i) (h2 : i ≤ 9223372036854775807) : (intL i).length ≤ 9 := by
  unfold intL
  split
  · exact putL_len _ _ (by omega)
  · exact putL_len _ _ (by omega)
theorem tx_ct (b cap : Nat) (zs : List Int) (s : ByteArray) (hz : zs.length ≤ 10000) (h1 : zs.length ≤ cap) (h2 : cap ≤ 9223372036854775807) (hs : s.size ≤ 10000) :
    ACt Tryd.prog 48 [ms b 0 zs.length cap, .lit (.string s)] [(b, .zs .u8 zs cap 5)] (Row .u8 5 (zs ++ txL s)) := by
  have := text_ct b cap zs s hz h1 h2 hs
  rw [List.append_assoc] at this
  exact this
def sL (s : Sl) : List Int := txL s.nm ++ (txL s.gl ++ (intL s.w ++ (intL s.f ++ intL s.t)))
structure Sb (s : Sl) : Prop where
  z : Sz s
  w : -9223372036854775808 ≤ s.w ∧ s.w ≤ 9223372036854775807
  f : -9223372036854775808 ≤ s.f ∧ s.f ≤ 9223372036854775807
  t : -9223372036854775808 ≤ s.t ∧ s.t ≤ 9223372036854775807
theorem sL_len (s : Sl) (h : Sb s) : (sL s).length ≤ 2060 := by
  have := txL_len s.nm (by have := h.z.n; omega)
  have := txL_len s.gl (by have := h.z.g; omega)
  have := h.z.n
  have := h.z.g
  have := intL_len s.w h.w.1 h.w.2
  have := intL_len s.f h.f.1 h.f.2
  have := intL_len s.t h.t.1 h.t.2
  unfold sL
  simp only [List.length_append]
  omega
set_option maxRecDepth 8000 in
set_option maxHeartbeats 2000000 in
theorem sput_ct (b cap : Nat) (zs : List Int) (s : Sl) (hs : Sb s) (hz : zs.length ≤ 5000) (h1 : zs.length ≤ cap) (h2 : cap ≤ 9223372036854775807) :
    ACt Tryd.prog 24 [ms b 0 zs.length cap, siv s] [(b, .zs .u8 zs cap 5)] (Row .u8 5 (zs ++ sL s)) := by
  have l1 := txL_len s.nm (by have := hs.z.n; omega)
  have l2 := txL_len s.gl (by have := hs.z.g; omega)
  have m1 := hs.z.n
  have m2 := hs.z.g
  have mw := hs.w
  have mf := hs.f
  have mt := hs.t
  have l3 := intL_len s.w mw.1 mw.2
  have l4 := intL_len s.f mf.1 mf.2
  obtain ⟨sn, sg, w, f, t⟩ := s
  simp only at l1 l2 m1 m2 mw mf mt l3 l4
  have hT : zs ++ sL ⟨sn, sg, w, f, t⟩ = zs ++ txL sn ++ txL sg ++ intL w ++ intL f ++ intL t := by simp [sL]
  rw [hT]
  have c1 := tx_ct b cap zs sn (by omega) h1 h2 (by omega)
  have c2 := fun b' cap' h h' => tx_ct b' cap' (zs ++ txL sn) sg (by rw [List.length_append]; omega) h h' (by omega)
  have c3 := fun b' cap' h h' => int_ct b' cap' (zs ++ txL sn ++ txL sg) w (by simp only [List.length_append]; omega) h h' mw.1 mw.2
  have c4 := fun b' cap' h h' => int_ct b' cap' (zs ++ txL sn ++ txL sg ++ intL w) f (by simp only [List.length_append]; omega) h h' mf.1 mf.2
  have c5 := fun b' cap' h h' => int_ct b' cap' (zs ++ txL sn ++ txL sg ++ intL w ++ intL f) t (by simp only [List.length_append]; omega) h h' mt.1 mt.2
  obtain ⟨D1, hD1⟩ : ∃ D1, D1 = zs ++ txL sn := ⟨_, rfl⟩
  rw [← hD1] at c1 c2 c3 c4 c5 ⊢
  obtain ⟨D2, hD2⟩ : ∃ D2, D2 = D1 ++ txL sg := ⟨_, rfl⟩
  rw [← hD2] at c2 c3 c4 c5 ⊢
  obtain ⟨D3, hD3⟩ : ∃ D3, D3 = D2 ++ intL w := ⟨_, rfl⟩
  rw [← hD3] at c3 c4 c5 ⊢
  obtain ⟨D4, hD4⟩ : ∃ D4, D4 = D3 ++ intL f := ⟨_, rfl⟩
  rw [← hD4] at c4 c5 ⊢
  obtain ⟨D5, hD5⟩ : ∃ D5, D5 = D4 ++ intL t := ⟨_, rfl⟩
  rw [← hD5] at c5 ⊢
  refine ACt.intro Tryd.func24 rfl (by kernel_rfl) (by simp [Tryd.ntmps24]) (fun cx => ?_)
  simp only [argE, Tryd.ntmps24, Tryd.results24]
  first | (have FRx := FR; clear FRx) | have FR := fr0S
  have FA := Sm.mk (TFCoD)
  repeat' first | (apply Sm.mk; refine Ys ?_) | refine WP.seq fun K hK => ?_ | (apply Ob.mk; exact Yo) | refine And.intro (Ob.out ?_) ?_ | refine Y1CoD ?_ | (refine WCt.row (by simp only [hget, ↓reduceIte, FR.out]; first | done | rfl) (c1) (Sm.out ?_)) | (refine WCt.mkrow (c1) (Sm.out ?_)) | (refine CallV.row (by simp only [hget, ↓reduceIte, FR.out]; first | done | rfl) (c1) (Sm.out ?_)) | refine CallV.mkrow (c1) (Sm.out ?_) | (refine CallV.upd (by simp only [hget, ↓reduceIte, FR.out]; first | done | rfl) (c1) (Sm.out ?_)) | refine CallV.mkobj (c1) (Sm.out ?_) | (first | refine CallV.fn (c1) (Sm.out ?_) | refine ExF.mk (c1) (Sm.out ?_) | refine ExG.mk (fun _ => c1) (Sm.out ?_) | refine ExG.mkJ (fun _ => c1) (Sm.out ?_) | refine ExG.mkI (Ob.out ?_) (fun _ => c1) (Sm.out ?_)) | (refine WCt.row (by simp only [hget, ↓reduceIte, FR.out]; first | done | rfl) (c2 nb2 nb3 (by omega) (by omega)) (Sm.out ?_)) | (refine WCt.mkrow (c2 nb2 nb3 (by omega) (by omega)) (Sm.out ?_)) | (refine CallV.row (by simp only [hget, ↓reduceIte, FR.out]; first | done | rfl) (c2 nb2 nb3 (by omega) (by omega)) (Sm.out ?_)) | refine CallV.mkrow (c2 nb2 nb3 (by omega) (by omega)) (Sm.out ?_) | (refine CallV.upd (by simp only [hget, ↓reduceIte, FR.out]; first | done | rfl) (c2 nb2 nb3 (by omega) (by omega)) (Sm.out ?_)) | refine CallV.mkobj (c2 nb2 nb3 (by omega) (by omega)) (Sm.out ?_) | (first | refine CallV.fn (c2 nb2 nb3 (by omega) (by omega)) (Sm.out ?_) | refine ExF.mk (c2 nb2 nb3 (by omega) (by omega)) (Sm.out ?_) | refine ExG.mk (fun _ => c2 nb2 nb3 (by omega) (by omega)) (Sm.out ?_) | refine ExG.mkJ (fun _ => c2 nb2 nb3 (by omega) (by omega)) (Sm.out ?_) | refine ExG.mkI (Ob.out ?_) (fun _ => c2 nb2 nb3 (by omega) (by omega)) (Sm.out ?_)) | (refine WCt.row (by simp only [hget, ↓reduceIte, FR.out]; first | done | rfl) (c3 nb4 nb5 (by omega) (by omega)) (Sm.out ?_)) | (refine WCt.mkrow (c3 nb4 nb5 (by omega) (by omega)) (Sm.out ?_)) | (refine CallV.row (by simp only [hget, ↓reduceIte, FR.out]; first | done | rfl) (c3 nb4 nb5 (by omega) (by omega)) (Sm.out ?_)) | refine CallV.mkrow (c3 nb4 nb5 (by omega) (by omega)) (Sm.out ?_) | (refine CallV.upd (by simp only [hget, ↓reduceIte, FR.out]; first | done | rfl) (c3 nb4 nb5 (by omega) (by omega)) (Sm.out ?_)) | refine CallV.mkobj (c3 nb4 nb5 (by omega) (by omega)) (Sm.out ?_) | (first | refine CallV.fn (c3 nb4 nb5 (by omega) (by omega)) (Sm.out ?_) | refine ExF.mk (c3 nb4 nb5 (by omega) (by omega)) (Sm.out ?_) | refine ExG.mk (fun _ => c3 nb4 nb5 (by omega) (by omega)) (Sm.out ?_) | refine ExG.mkJ (fun _ => c3 nb4 nb5 (by omega) (by omega)) (Sm.out ?_) | refine ExG.mkI (Ob.out ?_) (fun _ => c3 nb4 nb5 (by omega) (by omega)) (Sm.out ?_)) | (refine WCt.row (by simp only [hget, ↓reduceIte, FR.out]; first | done | rfl) (c4 nb6 nb7 (by omega) (by omega)) (Sm.out ?_)) | (refine WCt.mkrow (c4 nb6 nb7 (by omega) (by omega)) (Sm.out ?_)) | (refine CallV.row (by simp only [hget, ↓reduceIte, FR.out]; first | done | rfl) (c4 nb6 nb7 (by omega) (by omega)) (Sm.out ?_)) | refine CallV.mkrow (c4 nb6 nb7 (by omega) (by omega)) (Sm.out ?_) | (refine CallV.upd (by simp only [hget, ↓reduceIte, FR.out]; first | done | rfl) (c4 nb6 nb7 (by omega) (by omega)) (Sm.out ?_)) | refine CallV.mkobj (c4 nb6 nb7 (by omega) (by omega)) (Sm.out ?_) | (first | refine CallV.fn (c4 nb6 nb7 (by omega) (by omega)) (Sm.out ?_) | refine ExF.mk (c4 nb6 nb7 (by omega) (by omega)) (Sm.out ?_) | refine ExG.mk (fun _ => c4 nb6 nb7 (by omega) (by omega)) (Sm.out ?_) | refine ExG.mkJ (fun _ => c4 nb6 nb7 (by omega) (by omega)) (Sm.out ?_) | refine ExG.mkI (Ob.out ?_) (fun _ => c4 nb6 nb7 (by omega) (by omega)) (Sm.out ?_)) | (refine WCt.row (by simp only [hget, ↓reduceIte, FR.out]; first | done | rfl) (c5 nb8 nb9 (by omega) (by omega)) (Sm.out ?_)) | (refine WCt.mkrow (c5 nb8 nb9 (by omega) (by omega)) (Sm.out ?_)) | (refine CallV.row (by simp only [hget, ↓reduceIte, FR.out]; first | done | rfl) (c5 nb8 nb9 (by omega) (by omega)) (Sm.out ?_)) | refine CallV.mkrow (c5 nb8 nb9 (by omega) (by omega)) (Sm.out ?_) | (refine CallV.upd (by simp only [hget, ↓reduceIte, FR.out]; first | done | rfl) (c5 nb8 nb9 (by omega) (by omega)) (Sm.out ?_)) | refine CallV.mkobj (c5 nb8 nb9 (by omega) (by omega)) (Sm.out ?_) | (first | refine CallV.fn (c5 nb8 nb9 (by omega) (by omega)) (Sm.out ?_) | refine ExF.mk (c5 nb8 nb9 (by omega) (by omega)) (Sm.out ?_) | refine ExG.mk (fun _ => c5 nb8 nb9 (by omega) (by omega)) (Sm.out ?_) | refine ExG.mkJ (fun _ => c5 nb8 nb9 (by omega) (by omega)) (Sm.out ?_) | refine ExG.mkI (Ob.out ?_) (fun _ => c5 nb8 nb9 (by omega) (by omega)) (Sm.out ?_)) | refine YzCoD ?_ | (refine WP.cond rfl (fun hc => ?_) (fun hc => ?_) <;> (try simp only [ZC, reduceCtorEq, ZD] at hc) <;> (try exact absurd hc (by decide)) <;> (try (exfalso; omega))) | refine Rt.mk (And.intro (fun hg => Sm.out ?_) fun hg => Sm.out ?_) | (refine Nu.mk ?_; first | (fail_if_success have := nb1); intro nb1 | (fail_if_success have := nb2); intro nb2 | (fail_if_success have := nb3); intro nb3 | (fail_if_success have := nb4); intro nb4 | (fail_if_success have := nb5); intro nb5 | (fail_if_success have := nb6); intro nb6 | (fail_if_success have := nb7); intro nb7 | (fail_if_success have := nb8); intro nb8 | (fail_if_success have := nb9); intro nb9 | (fail_if_success have := nb10); intro nb10 | (fail_if_success have := nb11); intro nb11 | (fail_if_success have := nb12); intro nb12 | intro nbz) | (apply Yfr; refine Yf FR fun hFRb FR => ?_) | refine Two.mk ?_ ?_ | (apply Yxc; exact Yx) | refine Cs.mk fun hcs => Sm.out ?_ | go_step | omega | (simp only [maxLen_eq]; omega) | exact trivial | refine Or.inr (Rt.mk (And.intro (fun hg => Sm.out ?_) fun hg => Sm.out ?_))
  (refine OutQ.row (by simp only [resv, ZK, look, loadv, loadn, loadnm, load1, load1m, hget, ↓reduceIte, Nat.reduceEqDiff, Nat.reduceAdd, Nat.reduceMul, Nat.reduceLeDiff, Nat.reduceLT, reduceCtorEq, TFCoD, FR.out]) (by simp only [resv, resA, ZK, look, loadv, loadn, loadnm, load1, load1m, hget, ↓reduceIte, Nat.reduceEqDiff, Nat.reduceAdd, Nat.reduceMul, Nat.reduceLeDiff, Nat.reduceLT, reduceCtorEq, TFCoD, FR.out]; first | done | rfl) (by simp only [hget, ↓reduceIte, if_true, if_false, FR.out]; first | done | rfl) ?_ ?_ ?_ ?_ <;> first | omega | (simp only [maxLen_eq]; omega) | skip)
  all_goals rfl
abbrev s0 : Sl := ⟨⟨#[]⟩, ⟨#[]⟩, 0, 0, 0⟩
theorem tF_len {m : Int} {zs l r : List Int} (h : tF m zs = some (l, r)) : (l.length : Int) ≤ m := by
  unfold tF at h
  cases hg : cF m zs with
  | none => rw [hg] at h; cases h
  | some q =>
    obtain ⟨n, r'⟩ := q
    rw [hg] at h
    simp only at h
    split at h
    · cases h
    · cases h
      unfold cF at hg
      cases hn : nF zs with
      | none => rw [hn] at hg; cases hg
      | some q =>
        obtain ⟨n', r''⟩ := q
        rw [hn] at hg
        simp only at hg
        split at hg
        · cases hg
        · cases hg
          simp only [List.length_take]
          omega
theorem tS_len (m : Int) (hm : 0 ≤ m) (o : Option (List Int)) : ((bstr (tS m o).1).size : Int) ≤ m := by
  rw [bstr_size]
  cases o with
  | none => exact hm
  | some zs =>
    cases h : tF m zs with
    | none => rw [show tS m (some zs) = ([], none) from rS_bad h]; exact hm
    | some p =>
      obtain ⟨l, r⟩ := p
      rw [show tS m (some zs) = (l, some r) from rS_good h]
      exact tF_len h
end Go.Proofs.YtaffbklkjjmmdaaDoor
