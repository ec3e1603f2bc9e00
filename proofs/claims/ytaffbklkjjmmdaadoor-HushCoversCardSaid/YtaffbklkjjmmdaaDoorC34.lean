/-
  The walks and the laws that the statement leans on, part 34.
-/
import Derived.Test.YtaffbklkjjmmdaaDoorC9
import Derived.Test.YtaffbklkjjmmdaaDoorC30
import Derived.Test.YtaffbklkjjmmdaaDoorC33
namespace Go.Proofs.YtaffbklkjjmmdaaDoor
open Go
set_option linter.unusedVariables false
set_option linter.unusedSimpArgs false
set_option linter.defProp false
def TFHuO :=
  And.intro (And.intro (And.intro (And.intro (And.intro tyc0 (And.intro tyc2 zmb2)) (And.intro tyc3 (And.intro zmb3 tyc4))) (And.intro (And.intro zmb4 (And.intro tyc22 elt22)) (And.intro (And.intro mkz22 mkc22) (And.intro apT22 elk22)))) (And.intro (And.intro (And.intro zmb22 (And.intro tyc25 foff25_0)) (And.intro fpart25_0 (And.intro foff25_1 fpart25_1))) (And.intro (And.intro foff25_2 (And.intro fpart25_2 foff25_3)) (And.intro (And.intro fpart25_3 foff25_4) (And.intro fpart25_4 fe25))))) (And.intro (And.intro (And.intro (And.intro zmb25 (And.intro bldT25 tyc32)) (And.intro foff32_0 (And.intro fpart32_0 foff32_1))) (And.intro (And.intro fpart32_1 (And.intro foff32_2 fpart32_2)) (And.intro (And.intro foff32_3 fpart32_3) (And.intro foff32_4 fpart32_4)))) (And.intro (And.intro (And.intro fe32 (And.intro zmb32 bldT32)) (And.intro tyc62 (And.intro zmb62 Tryd.underlying0))) (And.intro (And.intro Tryd.underlying2 (And.intro Tryd.underlying3 Tryd.underlying4)) (And.intro (And.intro Tryd.underlying22 Tryd.underlying25) (And.intro Tryd.underlying32 Tryd.underlying62)))))
theorem Y1HuO {G R : Prop} (r : R) (h : R → G := by intro r; first | (apply WP.region; exact rvc_sound _ _ (Sm.out r)) | exact WP.drawK rfl mixed (by decide +kernel) (Sm.out r) | (apply WP.block; exact r) | (apply WP.skip; exact Yq r) | (apply WP.exit; exact Yq r) | (apply WP.ret; exact Sm.out r) | exact WP.cond rfl (fun _ => r) (fun hg => absurd hg (by decide)) | exact WP.cond rfl (fun hg => absurd hg (by decide)) (fun _ => r) | exact Rt.mk (And.intro (fun _ => Sm.out r) fun hg => absurd hg (by decide)) | exact Rt.mk (And.intro (fun hg => absurd hg (by decide)) fun _ => Sm.out r)) : G := h r
theorem YzHuO {G R : Prop} (r : R) (h : R → G := by intro r; first | (apply ExG.no; exact Sm.out r) | (apply Or.inl; apply ExG.no; exact Sm.out r) | exact Or.inl (And.intro (fun hg => absurd hg (by decide)) (ExG.no (Sm.out r)))) : G := h r
theorem YsHuO0 {P Q : Prop} (q : Q) (h : P = Q := by (try (conv => lhs; simp -dsimp only [ZK, rvc, capA, appA, litL, mkfv, drawF, headN, pureH, stp, dvc, calleeOf, gcall, pev, eff, newB, okd, og, ogs, ogo, ogp, slv, bltv, opd, litv, strip, one, both, putE, St.put, look, gdOf, gdv, picka, pickv, pickw, binv, bini, bins, binb, binp, binq, isSlT, bina, shp, eqCells, unv, convv, nilv, faddv, addp, idxav, idxp, load1, load1m, loadn, loadnm, loadv, hget, hset, hrep, hdel, slicev, slice3v, bnd, shift1, lenv, capv, IntKind.bits, extractv, fieldv, indexv, min2v, max2v, mkiv, tasv, tasz, cellsA, fillA, buildv, stC, oneC, rowMB, intsA, plN, appE, appZ, appC, appS, srcB, appNZ, appNC, VwL, srcC, srcZ, srcM, isBoolT, isPtrT, isSliceT, uOk, Value.oneCell', Nat.reducePow, Int.reducePow, Nat.reduceAdd, Nat.reduceMul, Nat.reduceSub, Nat.reduceLT, Nat.reduceLeDiff, Nat.reduceEqDiff, Nat.reduceBEq, Nat.reduceDiv, Nat.reduceMod, ↓reduceIte, reduceCtorEq, Int.reduceToNat, Int.reduceLT, Int.reduceLE, TFHuO, SeqQ, BlkQ, LoopQ, BodyQ, hin, FA.out, FR.out])) <;> exact rfl) : P := h.mpr q
theorem YsHuO1 {P Q : Prop} (q : Q) (h : P = Q := by (try (conv => lhs; simp -dsimp only [ZK, rvc, capA, appA, litL, mkfv, drawF, headN, pureH, stp, dvc, calleeOf, gcall, pev, eff, newB, okd, og, ogs, ogo, ogp, slv, bltv, opd, litv, strip, one, both, putE, St.put, look, gdOf, gdv, picka, pickv, pickw, binv, bini, bins, binb, binp, binq, isSlT, bina, shp, eqCells, unv, convv, nilv, faddv, addp, idxav, idxp, load1, load1m, loadn, loadnm, loadv, hget, hset, hrep, hdel, slicev, slice3v, bnd, shift1, lenv, capv, IntKind.bits, extractv, fieldv, indexv, min2v, max2v, mkiv, tasv, tasz, cellsA, fillA, buildv, stC, oneC, rowMB, intsA, plN, appE, appZ, appC, appS, srcB, appNZ, appNC, VwL, srcC, srcZ, srcM, isBoolT, isPtrT, isSliceT, uOk, Value.oneCell', Nat.reducePow, Int.reducePow, Nat.reduceAdd, Nat.reduceMul, Nat.reduceSub, Nat.reduceLT, Nat.reduceLeDiff, Nat.reduceEqDiff, Nat.reduceBEq, Nat.reduceDiv, Nat.reduceMod, ↓reduceIte, reduceCtorEq, Int.reduceToNat, Int.reduceLT, Int.reduceLE, TFHuO, SeqQ, BlkQ, LoopQ, BodyQ, hjm, FA.out, FR.out])) <;> exact rfl) : P := h.mpr q
def covP (L : List (Int × Int)) (x : Int) : Prop := ∃ p ∈ L, p.1 ≤ x ∧ x < p.2
def unt : List (Int × Int) → Int → Int
  | [], x => x
  | p :: L, x => unt L (if p.1 ≤ x ∧ x < p.2 then p.2 else x)
theorem unt_far : ∀ (L : List (Int × Int)) (x : Int), (∀ q ∈ L, x < q.1) → unt L x = x
  | [], x, _ => rfl
  | p :: L, x, h => by
    have h1 := h p (List.mem_cons_self ..)
    rw [unt, if_neg (by omega)]
    exact unt_far L x fun q hq => h q (List.mem_cons_of_mem _ hq)
theorem unt_spec : ∀ (L : List (Int × Int)) (x : Int), L.Pairwise (fun a b => a.1 ≤ b.1) →
    x ≤ unt L x ∧ (∀ y, x ≤ y → y < unt L x → covP L y) ∧ ¬ covP L (unt L x) ∧ (unt L x = x ∨ ∃ p ∈ L, unt L x = p.2)
  | [], x, _ => ⟨Int.le_refl _, fun y h1 h2 => by rw [unt] at h2; omega, fun ⟨p, hp, _⟩ => (by cases hp), .inl rfl⟩
  | p :: L, x, hs => by
    rw [List.pairwise_cons] at hs
    by_cases hc : p.1 ≤ x ∧ x < p.2
    · rw [unt, if_pos hc]
      obtain ⟨h1, h2, h3, h4⟩ := unt_spec L p.2 hs.2
      refine ⟨by omega, fun y y1 y2 => ?_, fun ⟨q, hq, q1, q2⟩ => ?_, ?_⟩
      · by_cases hy : y < p.2
        · exact ⟨p, List.mem_cons_self .., by omega, hy⟩
        · obtain ⟨q, hq, hh⟩ := h2 y (by omega) y2
          exact ⟨q, List.mem_cons_of_mem _ hq, hh⟩
      · rcases List.mem_cons.1 hq with rfl | hq
        · omega
        · exact h3 ⟨q, hq, q1, q2⟩
      · rcases h4 with h4 | ⟨q, hq, h4⟩
        · exact .inr ⟨p, List.mem_cons_self .., h4⟩
        · exact .inr ⟨q, List.mem_cons_of_mem _ hq, h4⟩
    · rw [unt, if_neg hc]
      obtain ⟨h1, h2, h3, h4⟩ := unt_spec L x hs.2
      refine ⟨h1, fun y y1 y2 => ?_, fun ⟨q, hq, q1, q2⟩ => ?_, ?_⟩
      · obtain ⟨q, hq, hh⟩ := h2 y y1 y2
        exact ⟨q, List.mem_cons_of_mem _ hq, hh⟩
      · rcases List.mem_cons.1 hq with rfl | hq
        · by_cases hx : q.1 ≤ x
          · omega
          · rw [unt_far L x fun r hr => by have := hs.1 r hr; omega] at q1
            omega
        · exact h3 ⟨q, hq, q1, q2⟩
      · rcases h4 with h4 | ⟨q, hq, h4⟩
        · exact .inl h4
        · exact .inr ⟨q, List.mem_cons_of_mem _ hq, h4⟩
theorem unt_least {L : List (Int × Int)} {x : Int} (hs : L.Pairwise (fun a b => a.1 ≤ b.1)) {t : Int} (h1 : x < t) (h2 : ¬ covP L t) : unt L x ≤ t := by
  obtain ⟨_, g2, _, _⟩ := unt_spec L x hs
  rcases Int.lt_or_le t (unt L x) with h | h
  · exact absurd (g2 t (by omega) h) h2
  · exact h
theorem covP_perm {L M : List (Int × Int)} (h : L.Perm M) (x : Int) : covP L x ↔ covP M x :=
  ⟨fun ⟨p, hp, hh⟩ => ⟨p, h.mem_iff.1 hp, hh⟩, fun ⟨p, hp, hh⟩ => ⟨p, h.mem_iff.2 hp, hh⟩⟩
def unS : List Sl → Int → Int
  | [], x => x
  | s :: L, x => unS L (if s.f ≤ x ∧ x < s.t then s.t else x)
theorem unS_eq : ∀ (L : List Sl) (x : Int), unS L x = unt (L.map fun s => (s.f, s.t)) x
  | [], _ => rfl
  | s :: L, x => by simp only [unS, unt, List.map_cons]; exact unS_eq L _
theorem seg_pw {g : List Sl} {n : Nat} (hn : g.length = n) (h : SegS g 0 n) : (g.map fun s => (s.f, s.t)).Pairwise (fun a b => a.1 ≤ b.1) := by
  rw [List.pairwise_map, List.pairwise_iff_getElem]
  intro i j hi hj hij
  have := h i j (Nat.zero_le _) hij (by omega)
  rwa [at_get g hi, at_get g hj] at this
theorem unt_uniq {L M : List (Int × Int)} (hp : L.Perm M) (hL : L.Pairwise (fun a b => a.1 ≤ b.1)) (hM : M.Pairwise (fun a b => a.1 ≤ b.1)) (x : Int) : unt L x = unt M x := by
  obtain ⟨a1, a2, a3, -⟩ := unt_spec L x hL
  obtain ⟨b1, b2, b3, -⟩ := unt_spec M x hM
  have h1 : ¬ covP M (unt L x) := fun h => a3 ((covP_perm hp _).2 h)
  have h2 : ¬ covP L (unt M x) := fun h => b3 ((covP_perm hp _).1 h)
  rcases Int.lt_trichotomy (unt L x) (unt M x) with h | h | h
  · exact absurd (b2 _ a1 h) h1
  · exact h
  · exact absurd (a2 _ b1 h) h2
noncomputable def untV (l : List Sl) (k : Ky) (now : Int) : Int := unS ((l.filter fun s => abB s k).mergeSort fun a b => decide (a.f ≤ b.f)) now
theorem untV_eq {l g : List Sl} {k : Ky} {n : Nat} (hn : g.length = n) (hp : g.Perm (l.filter fun s => abB s k)) (hs : SegS g 0 n) (now : Int) : untV l k now = unS g now := by
  unfold untV
  rw [unS_eq, unS_eq]
  have hm := List.mergeSort_perm (l.filter fun s => abB s k) (fun a b => decide (a.f ≤ b.f))
  refine unt_uniq ((hm.trans hp.symm).map _) ?_ (seg_pw hn hs) now
  rw [List.pairwise_map]
  have := List.pairwise_mergeSort (le := fun a b : Sl => decide (a.f ≤ b.f)) (fun a b c h1 h2 => by simp only [decide_eq_true_eq] at *; omega) (fun a b => by simp only [Bool.or_eq_true, decide_eq_true_eq]; omega) (l.filter fun s => abB s k)
  exact this.imp fun h => by simpa using h
theorem ab_fb {s : Sl} {k : Ky} (h : abB s k = true) : fb s := by
  unfold abB srB at h
  simp only [Bool.and_eq_true, decide_eq_true_eq] at h
  unfold fb; omega
def uV : List Sl → Nat → Nat → AV
  | [], _, _ => nsl
  | k :: r, x, c => ms x 0 (r.length + 1) c
def uH : List Sl → Nat → Nat → Hp
  | [], _, _ => []
  | k :: r, x, c => [(x, .cells (scs (k :: r)) (c * 5) 32)]
structure UnG where
  i : Nat
  A : List Sl
  x : Nat
  c : Nat
structure UnI where
  i : Nat
  v : Int
set_option maxHeartbeats 8000000 in
theorem until_ct (N : Nat) (hN : N ≤ 100000) (hS : SortOk N) (l : List Sl) (k : Ky) (now : Int) (n : Nat) (hn : l.length = n) (hl : n ≤ N) (hz : ∀ e ∈ l, Sz e) (hk : k.g.size ≤ 5000) (n0 n1 : Nat) :
    ACt Tryd.prog 13 [.sl n (scs l), kv k, iv .i64 now] [(0, .ro .u8 fsZ 256 n0), (1, .ro .u8 acZ 32 n1)] (fun r F' => r = iv .i64 (untV l k now) ∧ F' = [(0, .ro .u8 fsZ 256 n0), (1, .ro .u8 acZ 32 n1)]) := by
  have hCl := scs_len l
  have hdr := scs_drop l
  have cT := fun (i : Nat) (h : i < l.length) => about_ct l[i] k (hz _ (List.getElem_mem h)) hk n0 n1
  have hU := fun (g : List Sl) (m : Nat) (hm : g.length = m) (hp : g.Perm (l.filter fun s => abB s k)) (hs : SegS g 0 m) => untV_eq hm hp hs now
  have hF0 := fun (e : Sl) (h : abB e k = true) => ab_fb h
  rw [hn] at hCl
  obtain ⟨P, hP⟩ : ∃ P : Sl → Bool, P = fun s => abB s k := ⟨_, rfl⟩
  rw [← hP] at hU
  have cT2 : ∀ (i : Nat) (h : i < l.length), ACt Tryd.prog 36 [siv l[i], kv k] [(0, .ro .u8 fsZ 256 n0), (1, .ro .u8 acZ 32 n1)] (fun r F' => r = bv (P l[i]) ∧ F' = [(0, .ro .u8 fsZ 256 n0), (1, .ro .u8 acZ 32 n1)]) := by rw [hP]; exact cT
  have hF : ∀ e, P e = true → fb e := by rw [hP]; exact hF0
  clear hF0
  obtain ⟨R, hR⟩ : ∃ R, R = untV l k now := ⟨_, rfl⟩
  rw [← hR] at hU ⊢
  obtain ⟨C, hC⟩ : ∃ C, C = scs l := ⟨_, rfl⟩
  rw [← hC] at hCl hdr ⊢
  obtain ⟨FZ, hFZ⟩ : ∃ FZ, FZ = fsZ := ⟨_, rfl⟩
  obtain ⟨AZ, hAZ⟩ : ∃ AZ, AZ = acZ := ⟨_, rfl⟩
  rw [← hFZ, ← hAZ] at cT2 ⊢
  clear cT
  obtain ⟨kg, kr, kp, ke, ks⟩ := k
  clear hz hk hC hP hR hFZ hAZ
  have cN := sortn_ct
  unfold nsl at cN
  refine ACt.intro Tryd.func13 rfl (by kernel_rfl) (by simp [Tryd.ntmps13]) (fun cx => ?_)
  simp only [argE, Tryd.ntmps13, Tryd.results13]
  first | (have FRx := FR; clear FRx) | have FR := fr0S
  have FA := Sm.mk (TFHuO)
  repeat' first | (apply Sm.mk; refine Ys ?_) | refine WP.seq fun K hK => ?_ | (apply Ob.mk; exact Yo) | refine And.intro (Ob.out ?_) ?_ | refine Y1HuO ?_ | refine YzHuO ?_ | (refine WP.cond rfl (fun hc => ?_) (fun hc => ?_) <;> (try simp only [ZC, reduceCtorEq, ZD] at hc) <;> (try exact absurd hc (by decide)) <;> (try (exfalso; omega))) | refine Rt.mk (And.intro (fun hg => Sm.out ?_) fun hg => Sm.out ?_) | (refine Nu.mk ?_; first | (fail_if_success have := nb1); intro nb1 | (fail_if_success have := nb2); intro nb2 | (fail_if_success have := nb3); intro nb3 | (fail_if_success have := nb4); intro nb4 | (fail_if_success have := nb5); intro nb5 | (fail_if_success have := nb6); intro nb6 | (fail_if_success have := nb7); intro nb7 | (fail_if_success have := nb8); intro nb8 | (fail_if_success have := nb9); intro nb9 | (fail_if_success have := nb10); intro nb10 | intro nbz) | (apply Yfr; refine Yf FR fun hFRb FR => ?_) | refine Two.mk ?_ ?_ | (apply Yxc; exact Yx) | refine Cs.mk fun hcs => Sm.out ?_ | go_step | omega | (simp only [maxLen_eq]; omega) | exact trivial
  have h10 : (nb1 ≠ 0 ∧ 0 ≠ nb1) ∧ (nb1 ≠ 1 ∧ 1 ≠ nb1) := by simp [FR.out]
  refine WP.loop (Γ := UnG) (fun g => ⟨[(12, .sl n C), (13, iv .i64 (n : Int)), (14, iv .i64 (g.i : Int)), (7, uV g.A g.x g.c), (4, pt nb1 0), (2, iv .i64 now)], uH g.A g.x g.c ++ [(0, .ro .u8 FZ 256 n0), (1, .ro .u8 AZ 32 n1), (nb1, .cells [.lit (.string kg), .lit (.string kr), bv kp, iv .u64 ke, bv ks] 5 25)]⟩)
    (fun g => (g.i ≤ n ∧ g.A.length ≤ g.i ∧ g.A.length ≤ g.c ∧ g.c ≤ 9223372036854775807) ∧ g.A = (l.take g.i).filter P ∧ (g.x ≠ nb1 ∧ nb1 ≠ g.x) ∧ (g.x ≠ 0 ∧ 0 ≠ g.x) ∧ (g.x ≠ 1 ∧ 1 ≠ g.x)) (fun g => n - g.i) ⟨0, [], nb1 + 2, 0⟩
    ⟨⟨by simp, by simp, by simp, by simp⟩, by simp, by simp only; omega, by simp only; omega, by simp only; omega⟩ (Sub.pick (by simp [pickB, hget, hdel, FR.out, uV, uH, List.nil_append, h10]) (by simp [look, uV, uH, List.nil_append, h10])) ?_
  intro ⟨i, A, x, c⟩ ⟨⟨hi, ha1, ha2, ha3⟩, hT, hx1, hx2, hx3⟩
  simp only at hi ha1 ha2 ha3 hT hx1 hx2 hx3 ⊢
  have FR : Sm (¬ ((1 : Nat) = 0)) := Sm.mk Nat.one_ne_zero
  by_cases hin : i < n
  · have ki : decide ((i : Int) < (n : Int)) = true := decide_eq_true (by omega)
    have s1 : IntKind.i64.wrap ((i : Int) + 1) = ((i + 1 : Nat) : Int) := by rw [wrap_i64 (by omega) (by omega)]; omega
    have hd := hdr i (by omega)
    have cF := cT2 i (by omega)
    have hta := List.take_succ_eq_append_getElem (show i < l.length by omega)
    obtain ⟨v, hv⟩ : ∃ x, x = l[i]'(by omega) := ⟨_, rfl⟩
    rw [← hv] at hd hta cF
    have q1 : (i + 1) * 5 ≤ C.length := by omega
    have hK : P v = true → A ++ [v] = (l.take (i + 1)).filter P := fun h => by
      rw [hta, List.filter_append, ← hT]
      simp [h]
    have hE : P v = false → A = (l.take (i + 1)).filter P := fun h => by
      rw [hta, List.filter_append, ← hT]
      simp [h]
    obtain ⟨q, hq⟩ : ∃ q, P v = q := ⟨_, rfl⟩
    rw [hq] at cF hK hE
    clear hv hq hta
    obtain ⟨vn, vg, vw, vf, vt⟩ := v
    try simp only at hd hK hE cF
    cases A with
    | nil =>
      unfold uV uH
      simp only [List.nil_append]
      have hQb : [.lit (.string vn), .lit (.string vg), iv .i64 vw, iv .i64 vf, iv .i64 vt] = scs [⟨vn, vg, vw, vf, vt⟩] := rfl
      have hK2 := hK
      rw [List.nil_append] at hK2
      first | (have FRx := FR; clear FRx) | have FR := fr0S
      have FA := Sm.mk (And.intro TFHuO (And.intro ki (And.intro hd (And.intro q1 (And.intro s1 h10)))))
      repeat' first | (apply Sm.mk; refine YsHuO0 ?_) | refine WP.seq fun K hK => ?_ | (apply Ob.mk; exact Yo) | refine And.intro (Ob.out ?_) ?_ | refine Y1HuO ?_ | (refine CallV.updM (cF) (perm2 (by simp only [hget, hdel, ↓reduceIte, FR.out, ki, hd, q1, hin, s1, h10]; first | done | rfl) (by simp only [hget, hdel, ↓reduceIte, FR.out, ki, hd, q1, hin, s1, h10]; first | done | rfl)) (Sm.out ?_)) | ((first | refine ExF.up ?_ (cF) (Sm.out ?_) | refine ExG.up ?_ (fun _ => cF) (Sm.out ?_) | refine ExG.upJ ?_ (fun _ => cF) (Sm.out ?_) | refine ExG.upI ?_ (fun _ => cF) (Ob.out ?_) (Sm.out ?_)); focus (exact ⟨_, (perm2 (by simp only [hget, hdel, ↓reduceIte, FR.out, ki, hd, q1, hin, s1, h10]; first | done | rfl) (by simp only [hget, hdel, ↓reduceIte, FR.out, ki, hd, q1, hin, s1, h10]; first | done | rfl))⟩)) | refine YzHuO ?_ | (refine WP.cond rfl (fun hc => ?_) (fun hc => ?_) <;> (try simp only [ZC, reduceCtorEq, ZD] at hc) <;> (try exact absurd hc (by decide)) <;> (try (exfalso; omega))) | refine Rt.mk (And.intro (fun hg => Sm.out ?_) fun hg => Sm.out ?_) | (refine Nu.mk ?_; first | (fail_if_success have := nb1); intro nb1 | (fail_if_success have := nb2); intro nb2 | (fail_if_success have := nb3); intro nb3 | (fail_if_success have := nb4); intro nb4 | (fail_if_success have := nb5); intro nb5 | (fail_if_success have := nb6); intro nb6 | (fail_if_success have := nb7); intro nb7 | (fail_if_success have := nb8); intro nb8 | (fail_if_success have := nb9); intro nb9 | (fail_if_success have := nb10); intro nb10 | intro nbz) | (apply Yfr; refine Yf FR fun hFRb FR => ?_) | refine Two.mk ?_ ?_ | (apply Yxc; exact Yx) | refine Cs.mk fun hcs => Sm.out ?_ | go_step | omega | (simp only [maxLen_eq]; omega) | exact trivial
      · have g1 : nb4 ≠ nb1 ∧ nb1 ≠ nb4 := by simp [FR.out]
        have g2 : nb4 ≠ 0 ∧ 0 ≠ nb4 := by simp [FR.out]
        have g3 : nb4 ≠ 1 ∧ 1 ≠ nb4 := by simp [FR.out]
        have hb := hFRb
        exact ⟨⟨i + 1, [⟨vn, vg, vw, vf, vt⟩], nb4, nb5⟩, ⟨⟨by simp only; omega, by simp only [List.length_singleton]; omega, hb.1, hb.2⟩, hK2 hc, g1, g2, g3⟩, by simp only; omega, (Sub.pick (by simp [pickB, hget, hdel, FR.out, h10, g1, g2, g3, uV, uH, hQb, List.length_nil, Nat.zero_add, List.cons_append, List.nil_append]) (by simp [look, h10, g1, g2, g3, uV, uH, hQb, List.length_nil, Nat.zero_add, List.cons_append, List.nil_append]))⟩
      · exact ⟨⟨i + 1, [], x, c⟩, ⟨⟨by simp only; omega, by simp only; omega, ha2, ha3⟩, hE hc, hx1, hx2, hx3⟩, by simp only; omega, (Sub.pick (by simp [pickB, hget, hdel, FR.out, h10, uV, uH, List.nil_append]) (by simp [look, h10, uV, uH, List.nil_append]))⟩
    | cons e r =>
      have hQl := scs_len (e :: r)
      have hQo := scs_one (e :: r)
      have hQa := scs_app (e :: r) [⟨vn, vg, vw, vf, vt⟩]
      obtain ⟨Q, hQ⟩ : ∃ Q, Q = scs (e :: r) := ⟨_, rfl⟩
      rw [← hQ] at hQl hQo hQa
      unfold uV uH
      simp only [← hQ, List.cons_append, List.nil_append]
      rw [List.length_cons] at hQl ha2
      have hQb : Q ++ [.lit (.string vn), .lit (.string vg), iv .i64 vw, iv .i64 vf, iv .i64 vt] = scs (e :: r ++ [⟨vn, vg, vw, vf, vt⟩]) := hQa.symm
      have hK2 : q = true → e :: (r ++ [(⟨vn, vg, vw, vf, vt⟩ : Sl)]) = (l.take (i + 1)).filter P := hK
      have hrl : r.length + 1 ≤ i := by simpa using ha1
      have hrl2 : r.length + 1 ≤ 100000 := by omega
      clear ha1
      first | (have FRx := FR; clear FRx) | have FR := fr0S
      have FA := Sm.mk (And.intro TFHuO (And.intro ki (And.intro hd (And.intro q1 (And.intro s1 (And.intro h10 (And.intro hx1 (And.intro hx2 (And.intro hx3 (And.intro hQl hQo))))))))))
      repeat' first | (apply Sm.mk; refine YsHuO0 ?_) | refine WP.seq fun K hK => ?_ | (apply Ob.mk; exact Yo) | refine And.intro (Ob.out ?_) ?_ | refine Y1HuO ?_ | (refine CallV.updM (cF) (perm2 (by simp only [hget, hdel, ↓reduceIte, FR.out, ki, hd, q1, hin, s1, h10, hx1, hx2, hx3, hQl, hQo]; first | done | rfl) (by simp only [hget, hdel, ↓reduceIte, FR.out, ki, hd, q1, hin, s1, h10, hx1, hx2, hx3, hQl, hQo]; first | done | rfl)) (Sm.out ?_)) | ((first | refine ExF.up ?_ (cF) (Sm.out ?_) | refine ExG.up ?_ (fun _ => cF) (Sm.out ?_) | refine ExG.upJ ?_ (fun _ => cF) (Sm.out ?_) | refine ExG.upI ?_ (fun _ => cF) (Ob.out ?_) (Sm.out ?_)); focus (exact ⟨_, (perm2 (by simp only [hget, hdel, ↓reduceIte, FR.out, ki, hd, q1, hin, s1, h10, hx1, hx2, hx3, hQl, hQo]; first | done | rfl) (by simp only [hget, hdel, ↓reduceIte, FR.out, ki, hd, q1, hin, s1, h10, hx1, hx2, hx3, hQl, hQo]; first | done | rfl))⟩)) | refine YzHuO ?_ | (refine WP.cond rfl (fun hc => ?_) (fun hc => ?_) <;> (try simp only [ZC, reduceCtorEq, ZD] at hc) <;> (try exact absurd hc (by decide)) <;> (try (exfalso; omega))) | refine Rt.mk (And.intro (fun hg => Sm.out ?_) fun hg => Sm.out ?_) | (refine Nu.mk ?_; first | (fail_if_success have := nb1); intro nb1 | (fail_if_success have := nb2); intro nb2 | (fail_if_success have := nb3); intro nb3 | (fail_if_success have := nb4); intro nb4 | (fail_if_success have := nb5); intro nb5 | (fail_if_success have := nb6); intro nb6 | (fail_if_success have := nb7); intro nb7 | (fail_if_success have := nb8); intro nb8 | (fail_if_success have := nb9); intro nb9 | (fail_if_success have := nb10); intro nb10 | intro nbz) | (apply Yfr; refine Yf FR fun hFRb FR => ?_) | refine Two.mk ?_ ?_ | (apply Yxc; exact Yx) | refine Cs.mk fun hcs => Sm.out ?_ | go_step | omega | (simp only [maxLen_eq]; omega) | exact trivial
      · have g1 : nb4 ≠ nb1 ∧ nb1 ≠ nb4 := by simp [FR.out]
        have g2 : nb4 ≠ 0 ∧ 0 ≠ nb4 := by simp [FR.out]
        have g3 : nb4 ≠ 1 ∧ 1 ≠ nb4 := by simp [FR.out]
        have hb := hFRb
        have hal : (r ++ [(⟨vn, vg, vw, vf, vt⟩ : Sl)]).length + 1 = r.length + 1 + 1 := by simp
        exact ⟨⟨i + 1, e :: (r ++ [⟨vn, vg, vw, vf, vt⟩]), nb4, nb5⟩, ⟨⟨by simp only; omega, by simp only [List.length_cons]; omega, by simp only [List.length_cons]; omega, hb.2⟩, hK2 hc, g1, g2, g3⟩, by simp only; omega, (Sub.pick (by simp [pickB, hget, hdel, FR.out, h10, g1, g2, g3, uV, uH, hQb, hal, List.cons_append, List.nil_append]) (by simp [look, h10, g1, g2, g3, uV, uH, hQb, hal, List.cons_append, List.nil_append]))⟩
      · exact ⟨⟨i + 1, e :: r, x, c⟩, ⟨⟨by simp only; omega, by simp only [List.length_cons]; omega, ha2, ha3⟩, hE hc, hx1, hx2, hx3⟩, by simp only; omega, (Sub.pick (by simp [pickB, hget, hdel, FR.out, h10, hx1, hx2, hx3, uV, uH, ← hQ, List.cons_append, List.nil_append]) (by simp [look, h10, hx1, hx2, hx3, uV, uH, ← hQ, List.cons_append, List.nil_append]))⟩
  · have ki : decide ((i : Int) < (n : Int)) = false := decide_eq_false (by omega)
    obtain rfl : i = n := by omega
    rw [List.take_of_length_le (by omega)] at hT
    cases A with
    | nil =>
      unfold uV uH
      simp only [List.nil_append]
      have hR0 : R = now := hU [] 0 rfl (by rw [← hT]) (fun p q _ _ h => by omega)
      first | (have FRx := FR; clear FRx) | have FR := fr0S
      have FA := Sm.mk (And.intro TFHuO (And.intro ki h10))
      repeat' first | (apply Sm.mk; refine Ys ?_) | refine WP.seq fun K hK => ?_ | (apply Ob.mk; exact Yo) | refine And.intro (Ob.out ?_) ?_ | refine Y1HuO ?_ | refine Yc (c := cN) (r := ?_) | refine YzHuO ?_ | (refine WP.cond rfl (fun hc => ?_) (fun hc => ?_) <;> (try simp only [ZC, reduceCtorEq, ZD] at hc) <;> (try exact absurd hc (by decide)) <;> (try (exfalso; omega))) | refine Rt.mk (And.intro (fun hg => Sm.out ?_) fun hg => Sm.out ?_) | (refine Nu.mk ?_; first | (fail_if_success have := nb1); intro nb1 | (fail_if_success have := nb2); intro nb2 | (fail_if_success have := nb3); intro nb3 | (fail_if_success have := nb4); intro nb4 | (fail_if_success have := nb5); intro nb5 | (fail_if_success have := nb6); intro nb6 | (fail_if_success have := nb7); intro nb7 | (fail_if_success have := nb8); intro nb8 | (fail_if_success have := nb9); intro nb9 | (fail_if_success have := nb10); intro nb10 | intro nbz) | (apply Yfr; refine Yf FR fun hFRb FR => ?_) | refine Two.mk ?_ ?_ | (apply Yxc; exact Yx) | refine Cs.mk fun hcs => Sm.out ?_ | go_step | omega | (simp only [maxLen_eq]; omega) | exact trivial
      refine WP.loop (Γ := Unit) (fun _ => ⟨[(28, .lit (.slice none 0 0)), (29, iv .i64 0), (30, iv .i64 0), (2, iv .i64 now)], [(0, .ro .u8 FZ 256 n0), (1, .ro .u8 AZ 32 n1)]⟩) (fun _ => True) (fun _ => 0) () trivial (Sub.pick (by simp [pickB, hget, hdel, FR.out, h10]) (by simp [look, h10])) ?_
      intro _ _
      have FR : Sm (¬ ((1 : Nat) = 0)) := Sm.mk Nat.one_ne_zero
      have k0 : decide ((0 : Int) < 0) = false := by decide
      first | (have FRx := FR; clear FRx) | have FR := fr0S
      have FA := Sm.mk (And.intro TFHuO k0)
      repeat' first | (apply Sm.mk; refine Ys ?_) | refine WP.seq fun K hK => ?_ | (apply Ob.mk; exact Yo) | refine And.intro (Ob.out ?_) ?_ | refine Y1HuO ?_ | refine YzHuO ?_ | (refine WP.cond rfl (fun hc => ?_) (fun hc => ?_) <;> (try simp only [ZC, reduceCtorEq, ZD] at hc) <;> (try exact absurd hc (by decide)) <;> (try (exfalso; omega))) | refine Rt.mk (And.intro (fun hg => Sm.out ?_) fun hg => Sm.out ?_) | (refine Nu.mk ?_; first | (fail_if_success have := nb1); intro nb1 | (fail_if_success have := nb2); intro nb2 | (fail_if_success have := nb3); intro nb3 | (fail_if_success have := nb4); intro nb4 | (fail_if_success have := nb5); intro nb5 | (fail_if_success have := nb6); intro nb6 | (fail_if_success have := nb7); intro nb7 | (fail_if_success have := nb8); intro nb8 | (fail_if_success have := nb9); intro nb9 | (fail_if_success have := nb10); intro nb10 | intro nbz) | (apply Yfr; refine Yf FR fun hFRb FR => ?_) | refine Two.mk ?_ ?_ | (apply Yxc; exact Yx) | refine Cs.mk fun hcs => Sm.out ?_ | go_step | omega | (simp only [maxLen_eq]; omega) | exact trivial
      (refine OutQ.drop _ _ (perm2 (by simp only [hget, hdel, ↓reduceIte, if_true, if_false, FR.out, hR0]; first | done | rfl) (by simp only [hget, hdel, ↓reduceIte, if_true, if_false, FR.out, hR0]; first | done | rfl)) (by simp only [resv, ZK, look, loadv, loadn, loadnm, load1, load1m, hget, ↓reduceIte, Nat.reduceEqDiff, Nat.reduceAdd, Nat.reduceMul, Nat.reduceLeDiff, Nat.reduceLT, reduceCtorEq, TFHuO, FR.out, hR0]) ⟨(by simp only [resv, resA, ZK, look, loadv, loadn, loadnm, load1, load1m, hget, ↓reduceIte, Nat.reduceEqDiff, Nat.reduceAdd, Nat.reduceMul, Nat.reduceLeDiff, Nat.reduceLT, reduceCtorEq, TFHuO, FR.out, hR0]; first | done | rfl), rfl⟩)
    | cons e r =>
      have cS := ACt.sub (hS (e :: r) x (r.length + 1) c rfl (by rw [List.length_cons] at ha1; omega) ⟨by rw [List.length_cons] at ha2; omega, ha3⟩ (fun a ha => by
        rw [hT] at ha
        exact hF _ (List.mem_filter.1 ha).2))
      have hm := ha2
      rw [List.length_cons] at hm ha1
      obtain ⟨m, hmm⟩ : ∃ m, m = r.length + 1 := ⟨_, rfl⟩
      have hlA : (e :: r).length = m := by rw [hmm]; rfl
      obtain ⟨Q, hQ⟩ : ∃ Q, Q = scs (e :: r) := ⟨_, rfl⟩
      unfold uV uH
      simp only [← hQ, ← hmm, List.cons_append, List.nil_append] at cS ⊢
      rw [← hmm] at hm ha1
      clear hQ
      first | (have FRx := FR; clear FRx) | have FR := fr0S
      have FA := Sm.mk (And.intro TFHuO (And.intro ki (And.intro h10 (And.intro hx1 (And.intro hx2 hx3)))))
      repeat' first | (apply Sm.mk; refine Ys ?_) | refine WP.seq fun K hK => ?_ | (apply Ob.mk; exact Yo) | refine And.intro (Ob.out ?_) ?_ | refine Y1HuO ?_ | (refine CallV.ex (F := [_]) (perm1 (by simp only [hget, hdel, ↓reduceIte, FR.out, ki, h10, hx1, hx2, hx3]; first | done | rfl)) (cS) (fun g => Sm.out ?_)) | refine YzHuO ?_ | (refine WP.cond rfl (fun hc => ?_) (fun hc => ?_) <;> (try simp only [ZC, reduceCtorEq, ZD] at hc) <;> (try exact absurd hc (by decide)) <;> (try (exfalso; omega))) | refine Rt.mk (And.intro (fun hg => Sm.out ?_) fun hg => Sm.out ?_) | (refine Nu.mk ?_; first | (fail_if_success have := nb1); intro nb1 | (fail_if_success have := nb2); intro nb2 | (fail_if_success have := nb3); intro nb3 | (fail_if_success have := nb4); intro nb4 | (fail_if_success have := nb5); intro nb5 | (fail_if_success have := nb6); intro nb6 | (fail_if_success have := nb7); intro nb7 | (fail_if_success have := nb8); intro nb8 | (fail_if_success have := nb9); intro nb9 | (fail_if_success have := nb10); intro nb10 | intro nbz) | (apply Yfr; refine Yf FR fun hFRb FR => ?_) | refine Two.mk ?_ ?_ | (apply Yxc; exact Yx) | refine Cs.mk fun hcs => Sm.out ?_ | go_step | omega | (simp only [maxLen_eq]; omega) | exact trivial
      obtain ⟨g, hgp, hgs⟩ := g
      have hgl : g.length = m := by rw [hgp.length_eq, hlA]
      have hR0 := hU g m hgl (by rw [← hT]; exact hgp) (by rw [hmm]; exact hgs)
      have hGl := scs_len g
      have hgd := scs_drop g
      rw [hgl] at hGl
      obtain ⟨G, hG⟩ : ∃ G, G = scs g := ⟨_, rfl⟩
      simp only [← hG] at hGl hgd ⊢
      clear hG hgp hgs hT
      refine WP.loop (Γ := UnI) (fun g' => ⟨[(28, ms x 0 m c), (29, iv .i64 (m : Int)), (30, iv .i64 (g'.i : Int)), (2, iv .i64 g'.v)], [(0, .ro .u8 FZ 256 n0), (1, .ro .u8 AZ 32 n1), (x, .cells G (c * 5) 32)]⟩) (fun g' => g'.i ≤ m ∧ R = unS (g.drop g'.i) g'.v) (fun g' => m - g'.i) ⟨0, now⟩ ⟨Nat.zero_le _, by rw [List.drop_zero]; exact hR0⟩ (Sub.pick (by simp [pickB, hget, hdel, FR.out, h10, hx1, hx2, hx3]) (by simp [look, h10, hx1, hx2, hx3])) ?_
      intro ⟨j, v⟩ ⟨hj, hr⟩
      simp only at hj hr ⊢
      have FR : Sm (¬ ((1 : Nat) = 0)) := Sm.mk Nat.one_ne_zero
      by_cases hjm : j < m
      · have kj : decide ((j : Int) < (m : Int)) = true := decide_eq_true (by omega)
        have s1 : IntKind.i64.wrap ((j : Int) + 1) = ((j + 1 : Nat) : Int) := by rw [wrap_i64 (by omega) (by omega)]; omega
        have hd := hgd j (by omega)
        rw [List.drop_eq_getElem_cons (show j < g.length by omega)] at hr
        obtain ⟨u, hu⟩ : ∃ x, x = g[j]'(by omega) := ⟨_, rfl⟩
        rw [← hu] at hd hr
        clear hu
        rw [unS] at hr
        have q1 : (j + 1) * 5 ≤ G.length := by omega
        obtain ⟨un, ug, uw, uf, ut⟩ := u
        simp only at hd hr
        obtain ⟨a, ha⟩ : ∃ a, decide (uf ≤ v) = a := ⟨_, rfl⟩
        obtain ⟨b, hb⟩ : ∃ b, decide (ut > v) = b := ⟨_, rfl⟩
        obtain ⟨q, hq⟩ : ∃ q, (a && b) = q := ⟨_, rfl⟩
        cases q with
        | true =>
          have h1 : uf ≤ v ∧ v < ut := by
            rw [Bool.and_eq_true] at hq
            exact ⟨of_decide_eq_true (ha.trans hq.1), of_decide_eq_true (hb.trans hq.2)⟩
          rw [if_pos h1] at hr
          first | (have FRx := FR; clear FRx) | have FR := fr0S
          have FA := Sm.mk (And.intro TFHuO (And.intro kj (And.intro hd (And.intro q1 (And.intro s1 (And.intro ha (And.intro hb (And.intro hq (And.intro hx2 hx3)))))))))
          repeat' first | (apply Sm.mk; refine YsHuO1 ?_) | refine WP.seq fun K hK => ?_ | (apply Ob.mk; exact Yo) | refine And.intro (Ob.out ?_) ?_ | refine Y1HuO ?_ | refine YzHuO ?_ | (refine WP.cond rfl (fun hc => ?_) (fun hc => ?_) <;> (try simp only [ZC, reduceCtorEq, ZD] at hc) <;> (try exact absurd hc (by decide)) <;> (try (exfalso; omega))) | refine Rt.mk (And.intro (fun hg => Sm.out ?_) fun hg => Sm.out ?_) | (refine Nu.mk ?_; first | (fail_if_success have := nb1); intro nb1 | (fail_if_success have := nb2); intro nb2 | (fail_if_success have := nb3); intro nb3 | (fail_if_success have := nb4); intro nb4 | (fail_if_success have := nb5); intro nb5 | (fail_if_success have := nb6); intro nb6 | (fail_if_success have := nb7); intro nb7 | (fail_if_success have := nb8); intro nb8 | (fail_if_success have := nb9); intro nb9 | (fail_if_success have := nb10); intro nb10 | intro nbz) | (apply Yfr; refine Yf FR fun hFRb FR => ?_) | refine Two.mk ?_ ?_ | (apply Yxc; exact Yx) | refine Cs.mk fun hcs => Sm.out ?_ | go_step | omega | (simp only [maxLen_eq]; omega) | exact trivial
          exact ⟨⟨j + 1, ut⟩, ⟨by simp only; omega, hr⟩, by simp only; omega, (Sub.pick (by simp [pickB, hget, hdel, FR.out, hx2, hx3]) (by simp [look, hx2, hx3]))⟩
        | false =>
          have h1 : ¬ (uf ≤ v ∧ v < ut) := fun h => by
            rw [← ha, ← hb, decide_eq_true h.1, decide_eq_true (show ut > v from h.2)] at hq
            cases hq
          rw [if_neg h1] at hr
          first | (have FRx := FR; clear FRx) | have FR := fr0S
          have FA := Sm.mk (And.intro TFHuO (And.intro kj (And.intro hd (And.intro q1 (And.intro s1 (And.intro ha (And.intro hb (And.intro hq (And.intro hx2 hx3)))))))))
          repeat' first | (apply Sm.mk; refine YsHuO1 ?_) | refine WP.seq fun K hK => ?_ | (apply Ob.mk; exact Yo) | refine And.intro (Ob.out ?_) ?_ | refine Y1HuO ?_ | refine YzHuO ?_ | (refine WP.cond rfl (fun hc => ?_) (fun hc => ?_) <;> (try simp only [ZC, reduceCtorEq, ZD] at hc) <;> (try exact absurd hc (by decide)) <;> (try (exfalso; omega))) | refine Rt.mk (And.intro (fun hg => Sm.out ?_) fun hg => Sm.out ?_) | (refine Nu.mk ?_; first | (fail_if_success have := nb1); intro nb1 | (fail_if_success have := nb2); intro nb2 | (fail_if_success have := nb3); intro nb3 | (fail_if_success have := nb4); intro nb4 | (fail_if_success have := nb5); intro nb5 | (fail_if_success have := nb6); intro nb6 | (fail_if_success have := nb7); intro nb7 | (fail_if_success have := nb8); intro nb8 | (fail_if_success have := nb9); intro nb9 | (fail_if_success have := nb10); intro nb10 | intro nbz) | (apply Yfr; refine Yf FR fun hFRb FR => ?_) | refine Two.mk ?_ ?_ | (apply Yxc; exact Yx) | refine Cs.mk fun hcs => Sm.out ?_ | go_step | omega | (simp only [maxLen_eq]; omega) | exact trivial
          exact ⟨⟨j + 1, v⟩, ⟨by simp only; omega, hr⟩, by simp only; omega, (Sub.pick (by simp [pickB, hget, hdel, FR.out, hx2, hx3]) (by simp [look, hx2, hx3]))⟩
      · have kj : decide ((j : Int) < (m : Int)) = false := decide_eq_false (by omega)
        rw [List.drop_eq_nil_of_le (by omega)] at hr
        have hr : R = v := hr
        first | (have FRx := FR; clear FRx) | have FR := fr0S
        have FA := Sm.mk (And.intro TFHuO (And.intro kj (And.intro hx2 hx3)))
        repeat' first | (apply Sm.mk; refine Ys ?_) | refine WP.seq fun K hK => ?_ | (apply Ob.mk; exact Yo) | refine And.intro (Ob.out ?_) ?_ | refine Y1HuO ?_ | refine YzHuO ?_ | (refine WP.cond rfl (fun hc => ?_) (fun hc => ?_) <;> (try simp only [ZC, reduceCtorEq, ZD] at hc) <;> (try exact absurd hc (by decide)) <;> (try (exfalso; omega))) | refine Rt.mk (And.intro (fun hg => Sm.out ?_) fun hg => Sm.out ?_) | (refine Nu.mk ?_; first | (fail_if_success have := nb1); intro nb1 | (fail_if_success have := nb2); intro nb2 | (fail_if_success have := nb3); intro nb3 | (fail_if_success have := nb4); intro nb4 | (fail_if_success have := nb5); intro nb5 | (fail_if_success have := nb6); intro nb6 | (fail_if_success have := nb7); intro nb7 | (fail_if_success have := nb8); intro nb8 | (fail_if_success have := nb9); intro nb9 | (fail_if_success have := nb10); intro nb10 | intro nbz) | (apply Yfr; refine Yf FR fun hFRb FR => ?_) | refine Two.mk ?_ ?_ | (apply Yxc; exact Yx) | refine Cs.mk fun hcs => Sm.out ?_ | go_step | omega | (simp only [maxLen_eq]; omega) | exact trivial
        (refine OutQ.drop _ _ (perm2 (by simp only [hget, hdel, ↓reduceIte, if_true, if_false, FR.out, hr, hx2, hx3]; first | done | rfl) (by simp only [hget, hdel, ↓reduceIte, if_true, if_false, FR.out, hr, hx2, hx3]; first | done | rfl)) (by simp only [resv, ZK, look, loadv, loadn, loadnm, load1, load1m, hget, ↓reduceIte, Nat.reduceEqDiff, Nat.reduceAdd, Nat.reduceMul, Nat.reduceLeDiff, Nat.reduceLT, reduceCtorEq, TFHuO, FR.out, hr, hx2, hx3]) ⟨(by simp only [resv, resA, ZK, look, loadv, loadn, loadnm, load1, load1m, hget, ↓reduceIte, Nat.reduceEqDiff, Nat.reduceAdd, Nat.reduceMul, Nat.reduceLeDiff, Nat.reduceLT, reduceCtorEq, TFHuO, FR.out, hr, hx2, hx3]; first | done | rfl), rfl⟩)
end Go.Proofs.YtaffbklkjjmmdaaDoor
