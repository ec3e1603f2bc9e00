/-
  The walks and the laws that the statement leans on, part 42.
-/
import Derived.Test.YtfknbndmabogjaaDoorE10
import Derived.Test.YtfknbndmabogjaaDoorE15
import Derived.Test.YtfknbndmabogjaaDoorE40
namespace Go.Proofs.YtfknbndmabogjaaDoor
open Go Wi
set_option linter.unusedVariables false
set_option linter.unusedSimpArgs false
set_option linter.defProp false
def TFCoD :=
  And.intro (And.intro (And.intro (And.intro (And.intro tyc0 tyc4) (And.intro zmb4 tyc5)) (And.intro (And.intro zmb5 tyc9) (And.intro zmb9 (And.intro tyc25 zmb25)))) (And.intro (And.intro (And.intro tyc29 foff29_0) (And.intro fpart29_0 foff29_1)) (And.intro (And.intro fpart29_1 foff29_2) (And.intro fpart29_2 (And.intro foff29_3 fpart29_3))))) (And.intro (And.intro (And.intro (And.intro foff29_4 fpart29_4) (And.intro fe29 zmb29)) (And.intro (And.intro bldT29 tyc53) (And.intro elt53 (And.intro mkz53 apT53)))) (And.intro (And.intro (And.intro elk53 zmb53) (And.intro Tryd.underlying0 Tryd.underlying4)) (And.intro (And.intro Tryd.underlying5 Tryd.underlying9) (And.intro Tryd.underlying25 (And.intro Tryd.underlying29 Tryd.underlying53)))))
theorem Y1CoD {G R : Prop} (r : R) (h : R → G := by intro r; first | (apply WP.region; exact rvc_sound _ _ (Sm.out r)) | exact WP.drawN (cs := [3,6]) (k := 7) (bs := [nb6]) mixed (by decide +kernel) (by decide +kernel) (by decide +kernel) (by decide +kernel) (Sm.out r) | exact WP.drawN (cs := [3,6,9]) (k := 10) (bs := [nb4]) mixed (by decide +kernel) (by decide +kernel) (by decide +kernel) (by decide +kernel) (Sm.out r) | exact WP.drawN (cs := [3,6]) (k := 7) (bs := [b]) mixed (by decide +kernel) (by decide +kernel) (by decide +kernel) (by decide +kernel) (Sm.out r) | exact WP.drawN (cs := [3,6,9]) (k := 10) (bs := [b]) mixed (by decide +kernel) (by decide +kernel) (by decide +kernel) (by decide +kernel) (Sm.out r) | exact WP.drawK rfl mixed (by decide +kernel) (Sm.out r) | (apply WP.block; exact r) | (apply WP.skip; exact Yq r) | (apply WP.exit; exact Yq r) | (apply WP.ret; exact Sm.out r) | exact WP.cond rfl (fun _ => r) (fun hg => absurd hg (by decide)) | exact WP.cond rfl (fun hg => absurd hg (by decide)) (fun _ => r) | exact Rt.mk (And.intro (fun _ => Sm.out r) fun hg => absurd hg (by decide)) | exact Rt.mk (And.intro (fun hg => absurd hg (by decide)) fun _ => Sm.out r)) : G := h r
theorem YzCoD {G R : Prop} (r : R) (h : R → G := by intro r; first | (apply ExG.no; exact Sm.out r) | (apply Or.inl; apply ExG.no; exact Sm.out r) | exact Or.inl (And.intro (fun hg => absurd hg (by decide)) (ExG.no (Sm.out r)))) : G := h r
def txL (s : ByteArray) : List Int := putL 0 s.size ++ strL s
theorem txL_len (s : ByteArray) (h : s.size ≤ 100000) : (txL s).length ≤ s.size + 9 := by
  have := putL_len 0 s.size (by omega)
  unfold txL; rw [List.length_append, strL_len]; omega
abbrev flL (f : Bool) : List Int := [if f then 1 else 0]
theorem tx_ct (b cap : Nat) (zs : List Int) (s : ByteArray) (hz : zs.length ≤ 100000) (h1 : zs.length ≤ cap) (h2 : cap ≤ 9223372036854775807) (hs : s.size ≤ 100000) :
    ACt Tryd.prog 85 [ms b 0 zs.length cap, .lit (.string s)] [(b, .zs .u8 zs cap 5)] (Row .u8 5 (zs ++ txL s)) := by
  have := text_ct b cap zs s hz h1 h2 hs
  rw [List.append_assoc] at this
  exact this
def kL (k : Ky) : List Int := txL k.g ++ (txL k.r ++ (flL k.p ++ (putL 0 k.e.toNat ++ flL k.s)))
structure Kb (k : Ky) : Prop where
  z : Kz k
  e0 : 0 ≤ k.e
  e1 : k.e ≤ 18446744073709551615
set_option maxRecDepth 8000 in
set_option maxHeartbeats 2000000 in
theorem kput_ct (b cap : Nat) (zs : List Int) (k : Ky) (hk : Kb k) (hz : zs.length ≤ 50000) (h1 : zs.length ≤ cap) (h2 : cap ≤ 9223372036854775807) :
    ACt Tryd.prog 59 [ms b 0 zs.length cap, kv k] [(b, .zs .u8 zs cap 5)] (Row .u8 5 (zs ++ kL k)) := by
  have l1 := txL_len k.g (by have := hk.z.g; omega)
  have l2 := txL_len k.r (by have := hk.z.r; omega)
  have m1 := hk.z.g
  have m2 := hk.z.r
  have m3 := hk.e0
  have m4 := hk.e1
  have l4 := putL_len 0 k.e.toNat (by omega)
  obtain ⟨kg, kr, kp, ke, ks⟩ := k
  simp only at l1 l2 m1 m2 m3 m4 l4
  obtain ⟨e, rfl⟩ := Int.eq_ofNat_of_zero_le m3
  have hT : zs ++ kL ⟨kg, kr, kp, (e : Int), ks⟩ = zs ++ txL kg ++ txL kr ++ flL kp ++ putL 0 e ++ flL ks := by simp [kL]
  rw [hT]
  rw [Int.toNat_natCast] at l4
  have c1 := tx_ct b cap zs kg (by omega) h1 h2 (by omega)
  have c2 := fun b' cap' h h' => tx_ct b' cap' (zs ++ txL kg) kr (by rw [List.length_append]; omega) h h' (by omega)
  have c3 := fun b' cap' h h' => flag_ct b' cap' (zs ++ txL kg ++ txL kr) kp (by simp only [List.length_append]; omega) h h'
  have c4 := fun b' cap' h h' => num_ct b' cap' (zs ++ txL kg ++ txL kr ++ flL kp) e (by simp only [List.length_append, List.length_cons, List.length_nil]; omega) h h' (by omega)
  have c5 := fun b' cap' h h' => flag_ct b' cap' (zs ++ txL kg ++ txL kr ++ flL kp ++ putL 0 e) ks (by simp only [List.length_append, List.length_cons, List.length_nil]; omega) h h'
  obtain ⟨D1, hD1⟩ : ∃ D1, D1 = zs ++ txL kg := ⟨_, rfl⟩
  rw [← hD1] at c1 c2 c3 c4 c5 ⊢
  obtain ⟨D2, hD2⟩ : ∃ D2, D2 = D1 ++ txL kr := ⟨_, rfl⟩
  rw [← hD2] at c2 c3 c4 c5 ⊢
  obtain ⟨D3, hD3⟩ : ∃ D3, D3 = D2 ++ flL kp := ⟨_, rfl⟩
  rw [← hD3] at c3 c4 c5 ⊢
  obtain ⟨D4, hD4⟩ : ∃ D4, D4 = D3 ++ putL 0 e := ⟨_, rfl⟩
  rw [← hD4] at c4 c5 ⊢
  obtain ⟨D5, hD5⟩ : ∃ D5, D5 = D4 ++ flL ks := ⟨_, rfl⟩
  rw [← hD5] at c5 ⊢
  refine ACt.intro Tryd.func59 rfl (by kernel_rfl) (by simp [Tryd.ntmps59]) (fun cx => ?_)
  simp only [argE, Tryd.ntmps59, Tryd.results59]
  first | (have FRx := FR; clear FRx) | have FR := fr0S
  have FA := Sm.mk (TFCoD)
  repeat' first | (apply Sm.mk; refine Ys ?_) | refine WP.seq fun K hK => ?_ | (apply Ob.mk; exact Yo) | refine And.intro (Ob.out ?_) ?_ | refine Y1CoD ?_ | (refine WCt.row (by simp only [hget, ↓reduceIte, FR.out]; first | done | rfl) (c1) (Sm.out ?_)) | (refine WCt.mkrow (c1) (Sm.out ?_)) | (refine CallV.row (by simp only [hget, ↓reduceIte, FR.out]; first | done | rfl) (c1) (Sm.out ?_)) | refine CallV.mkrow (c1) (Sm.out ?_) | (refine CallV.upd (by simp only [hget, ↓reduceIte, FR.out]; first | done | rfl) (c1) (Sm.out ?_)) | refine CallV.mkobj (c1) (Sm.out ?_) | (first | refine CallV.fn (c1) (Sm.out ?_) | refine ExF.mk (c1) (Sm.out ?_) | refine ExG.mk (fun _ => c1) (Sm.out ?_) | refine ExG.mkJ (fun _ => c1) (Sm.out ?_) | refine ExG.mkI (Ob.out ?_) (fun _ => c1) (Sm.out ?_)) | (refine WCt.row (by simp only [hget, ↓reduceIte, FR.out]; first | done | rfl) (c2 nb2 nb3 (by omega) (by omega)) (Sm.out ?_)) | (refine WCt.mkrow (c2 nb2 nb3 (by omega) (by omega)) (Sm.out ?_)) | (refine CallV.row (by simp only [hget, ↓reduceIte, FR.out]; first | done | rfl) (c2 nb2 nb3 (by omega) (by omega)) (Sm.out ?_)) | refine CallV.mkrow (c2 nb2 nb3 (by omega) (by omega)) (Sm.out ?_) | (refine CallV.upd (by simp only [hget, ↓reduceIte, FR.out]; first | done | rfl) (c2 nb2 nb3 (by omega) (by omega)) (Sm.out ?_)) | refine CallV.mkobj (c2 nb2 nb3 (by omega) (by omega)) (Sm.out ?_) | (first | refine CallV.fn (c2 nb2 nb3 (by omega) (by omega)) (Sm.out ?_) | refine ExF.mk (c2 nb2 nb3 (by omega) (by omega)) (Sm.out ?_) | refine ExG.mk (fun _ => c2 nb2 nb3 (by omega) (by omega)) (Sm.out ?_) | refine ExG.mkJ (fun _ => c2 nb2 nb3 (by omega) (by omega)) (Sm.out ?_) | refine ExG.mkI (Ob.out ?_) (fun _ => c2 nb2 nb3 (by omega) (by omega)) (Sm.out ?_)) | (refine WCt.row (by simp only [hget, ↓reduceIte, FR.out]; first | done | rfl) (c3 nb4 nb5 (by omega) (by omega)) (Sm.out ?_)) | (refine WCt.mkrow (c3 nb4 nb5 (by omega) (by omega)) (Sm.out ?_)) | (refine CallV.row (by simp only [hget, ↓reduceIte, FR.out]; first | done | rfl) (c3 nb4 nb5 (by omega) (by omega)) (Sm.out ?_)) | refine CallV.mkrow (c3 nb4 nb5 (by omega) (by omega)) (Sm.out ?_) | (refine CallV.upd (by simp only [hget, ↓reduceIte, FR.out]; first | done | rfl) (c3 nb4 nb5 (by omega) (by omega)) (Sm.out ?_)) | refine CallV.mkobj (c3 nb4 nb5 (by omega) (by omega)) (Sm.out ?_) | (first | refine CallV.fn (c3 nb4 nb5 (by omega) (by omega)) (Sm.out ?_) | refine ExF.mk (c3 nb4 nb5 (by omega) (by omega)) (Sm.out ?_) | refine ExG.mk (fun _ => c3 nb4 nb5 (by omega) (by omega)) (Sm.out ?_) | refine ExG.mkJ (fun _ => c3 nb4 nb5 (by omega) (by omega)) (Sm.out ?_) | refine ExG.mkI (Ob.out ?_) (fun _ => c3 nb4 nb5 (by omega) (by omega)) (Sm.out ?_)) | (refine WCt.row (by simp only [hget, ↓reduceIte, FR.out]; first | done | rfl) (c4 nb6 nb7 (by omega) (by omega)) (Sm.out ?_)) | (refine WCt.mkrow (c4 nb6 nb7 (by omega) (by omega)) (Sm.out ?_)) | (refine CallV.row (by simp only [hget, ↓reduceIte, FR.out]; first | done | rfl) (c4 nb6 nb7 (by omega) (by omega)) (Sm.out ?_)) | refine CallV.mkrow (c4 nb6 nb7 (by omega) (by omega)) (Sm.out ?_) | (refine CallV.upd (by simp only [hget, ↓reduceIte, FR.out]; first | done | rfl) (c4 nb6 nb7 (by omega) (by omega)) (Sm.out ?_)) | refine CallV.mkobj (c4 nb6 nb7 (by omega) (by omega)) (Sm.out ?_) | (first | refine CallV.fn (c4 nb6 nb7 (by omega) (by omega)) (Sm.out ?_) | refine ExF.mk (c4 nb6 nb7 (by omega) (by omega)) (Sm.out ?_) | refine ExG.mk (fun _ => c4 nb6 nb7 (by omega) (by omega)) (Sm.out ?_) | refine ExG.mkJ (fun _ => c4 nb6 nb7 (by omega) (by omega)) (Sm.out ?_) | refine ExG.mkI (Ob.out ?_) (fun _ => c4 nb6 nb7 (by omega) (by omega)) (Sm.out ?_)) | (refine WCt.row (by simp only [hget, ↓reduceIte, FR.out]; first | done | rfl) (c5 nb8 nb9 (by omega) (by omega)) (Sm.out ?_)) | (refine WCt.mkrow (c5 nb8 nb9 (by omega) (by omega)) (Sm.out ?_)) | (refine CallV.row (by simp only [hget, ↓reduceIte, FR.out]; first | done | rfl) (c5 nb8 nb9 (by omega) (by omega)) (Sm.out ?_)) | refine CallV.mkrow (c5 nb8 nb9 (by omega) (by omega)) (Sm.out ?_) | (refine CallV.upd (by simp only [hget, ↓reduceIte, FR.out]; first | done | rfl) (c5 nb8 nb9 (by omega) (by omega)) (Sm.out ?_)) | refine CallV.mkobj (c5 nb8 nb9 (by omega) (by omega)) (Sm.out ?_) | (first | refine CallV.fn (c5 nb8 nb9 (by omega) (by omega)) (Sm.out ?_) | refine ExF.mk (c5 nb8 nb9 (by omega) (by omega)) (Sm.out ?_) | refine ExG.mk (fun _ => c5 nb8 nb9 (by omega) (by omega)) (Sm.out ?_) | refine ExG.mkJ (fun _ => c5 nb8 nb9 (by omega) (by omega)) (Sm.out ?_) | refine ExG.mkI (Ob.out ?_) (fun _ => c5 nb8 nb9 (by omega) (by omega)) (Sm.out ?_)) | refine YzCoD ?_ | (refine WP.cond rfl (fun hc => ?_) (fun hc => ?_) <;> (try simp only [ZC, reduceCtorEq, ZD] at hc) <;> (try exact absurd hc (by decide)) <;> (try (exfalso; omega))) | refine Rt.mk (And.intro (fun hg => Sm.out ?_) fun hg => Sm.out ?_) | (refine Nu.mk ?_; first | (fail_if_success have := nb1); intro nb1 | (fail_if_success have := nb2); intro nb2 | (fail_if_success have := nb3); intro nb3 | (fail_if_success have := nb4); intro nb4 | (fail_if_success have := nb5); intro nb5 | (fail_if_success have := nb6); intro nb6 | (fail_if_success have := nb7); intro nb7 | (fail_if_success have := nb8); intro nb8 | (fail_if_success have := nb9); intro nb9 | (fail_if_success have := nb10); intro nb10 | (fail_if_success have := nb11); intro nb11 | (fail_if_success have := nb12); intro nb12 | intro nbz) | (apply Yfr; refine Yf FR fun hFRb FR => ?_) | refine Two.mk ?_ ?_ | (apply Yxc; exact Yx) | refine Cs.mk fun hcs => Sm.out ?_ | go_step | omega | (simp only [maxLen_eq]; omega) | exact trivial | refine Or.inr (Rt.mk (And.intro (fun hg => Sm.out ?_) fun hg => Sm.out ?_))
  (refine OutQ.row (by simp only [resv, ZK, look, loadv, loadn, loadnm, load1, load1m, hget, ↓reduceIte, Nat.reduceEqDiff, Nat.reduceAdd, Nat.reduceMul, Nat.reduceLeDiff, Nat.reduceLT, reduceCtorEq, TFCoD, FR.out]) (by simp only [resv, resA, ZK, look, loadv, loadn, loadnm, load1, load1m, hget, ↓reduceIte, Nat.reduceEqDiff, Nat.reduceAdd, Nat.reduceMul, Nat.reduceLeDiff, Nat.reduceLT, reduceCtorEq, TFCoD, FR.out]; first | done | rfl) (by simp only [hget, ↓reduceIte, if_true, if_false, FR.out]; first | done | rfl) ?_ ?_ ?_ ?_ <;> first | omega | (simp only [maxLen_eq]; omega) | skip)
  all_goals rfl
end Go.Proofs.YtfknbndmabogjaaDoor
