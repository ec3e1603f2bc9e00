/-
  The walks and the laws that the statement leans on, part 43.
-/
import Derived.Test.YtaffbklkjjmmdaaDoorB10
import Derived.Test.YtaffbklkjjmmdaaDoorB17
import Derived.Test.YtaffbklkjjmmdaaDoorB23
import Derived.Test.YtaffbklkjjmmdaaDoorB39
import Derived.Test.YtaffbklkjjmmdaaDoorB42
namespace Go.Proofs.YtaffbklkjjmmdaaDoor
open Go Wi
set_option linter.unusedVariables false
set_option linter.unusedSimpArgs false
set_option linter.defProp false
def TFCoN :=
  And.intro (And.intro (And.intro (And.intro (And.intro (And.intro tyc0 tyc2) (And.intro zmb2 tyc3)) (And.intro (And.intro zmb3 tyc4) (And.intro zmb4 (And.intro tyc5 zmb5)))) (And.intro (And.intro (And.intro tyc9 zmb9) (And.intro tyc32 (And.intro foff32_0 fpart32_0))) (And.intro (And.intro foff32_1 fpart32_1) (And.intro foff32_2 (And.intro fpart32_2 foff32_3))))) (And.intro (And.intro (And.intro (And.intro fpart32_3 foff32_4) (And.intro fpart32_4 (And.intro fe32 zmb32))) (And.intro (And.intro bldT32 tyc47) (And.intro elt47 (And.intro mkz47 apT47)))) (And.intro (And.intro (And.intro elk47 zmb47) (And.intro tyc78 (And.intro foff78_0 fpart78_0))) (And.intro (And.intro foff78_1 fpart78_1) (And.intro fe78 (And.intro zmb78 bldT78)))))) (And.intro (And.intro (And.intro (And.intro (And.intro tyc79 elt79) (And.intro mkz79 (And.intro mkc79 apT79))) (And.intro (And.intro elk79 zmb79) (And.intro tyc80 (And.intro elt80 mkz80)))) (And.intro (And.intro (And.intro mkc80 apT80) (And.intro elk80 (And.intro zmb80 tyc82))) (And.intro (And.intro foff82_0 fpart82_0) (And.intro foff82_1 (And.intro fpart82_1 foff82_2))))) (And.intro (And.intro (And.intro (And.intro fpart82_2 foff82_3) (And.intro fpart82_3 (And.intro fe82 zmb82))) (And.intro (And.intro bldT82 tyc83) (And.intro Tryd.underlying0 (And.intro Tryd.underlying2 Tryd.underlying3)))) (And.intro (And.intro (And.intro Tryd.underlying4 Tryd.underlying5) (And.intro Tryd.underlying9 (And.intro Tryd.underlying32 Tryd.underlying47))) (And.intro (And.intro Tryd.underlying78 Tryd.underlying79) (And.intro Tryd.underlying80 (And.intro Tryd.underlying82 Tryd.underlying83))))))
theorem Y1CoN {G R : Prop} (r : R) (h : R → G := by intro r; first | (apply WP.region; exact rvc_sound _ _ (Sm.out r)) | exact WP.drawP (ia := 21) (is := 22) (k := 23) mixed (by decide +kernel) (by decide +kernel) (Sm.out r) | exact WP.drawS (is := 4) (k := 7) mixed (by decide +kernel) (by decide +kernel) (Sm.out r) | exact WP.drawK rfl mixed (by decide +kernel) (Sm.out r) | (apply WP.block; exact r) | (apply WP.skip; exact Yq r) | (apply WP.exit; exact Yq r) | (apply WP.ret; exact Sm.out r) | exact WP.cond rfl (fun _ => r) (fun hg => absurd hg (by decide)) | exact WP.cond rfl (fun hg => absurd hg (by decide)) (fun _ => r) | exact Rt.mk (And.intro (fun _ => Sm.out r) fun hg => absurd hg (by decide)) | exact Rt.mk (And.intro (fun hg => absurd hg (by decide)) fun _ => Sm.out r)) : G := h r
theorem YzCoN {G R : Prop} (r : R) (h : R → G := by intro r; first | (apply ExG.no; exact Sm.out r) | (apply Or.inl; apply ExG.no; exact Sm.out r) | exact Or.inl (And.intro (fun hg => absurd hg (by decide)) (ExG.no (Sm.out r)))) : G := h r
theorem YsCoN0 {P Q : Prop} (q : Q) (h : P = Q := by (try (conv => lhs; simp -dsimp only [ZK, rvc, capA, appA, litL, mkfv, drawF, headN, pureH, stp, dvc, calleeOf, gcall, pev, eff, newB, okd, og, ogs, ogo, ogp, slv, bltv, opd, litv, strip, one, both, putE, St.put, look, gdOf, gdv, picka, pickv, pickw, binv, bini, bins, binb, binp, binq, isSlT, bina, shp, eqCells, unv, convv, nilv, faddv, addp, idxav, idxp, load1, load1m, loadn, loadnm, loadv, hget, hset, hrep, hdel, slicev, slice3v, bnd, shift1, lenv, capv, IntKind.bits, extractv, fieldv, indexv, min2v, max2v, mkiv, tasv, tasz, cellsA, fillA, buildv, stC, oneC, rowMB, intsA, plN, appE, appZ, appC, appS, srcB, appNZ, appNC, VwL, srcC, srcZ, srcM, isBoolT, isPtrT, isSliceT, uOk, Value.oneCell', Nat.reducePow, Int.reducePow, Nat.reduceAdd, Nat.reduceMul, Nat.reduceSub, Nat.reduceLT, Nat.reduceLeDiff, Nat.reduceEqDiff, Nat.reduceBEq, Nat.reduceDiv, Nat.reduceMod, ↓reduceIte, reduceCtorEq, Int.reduceToNat, Int.reduceLT, Int.reduceLE, drawSF, hdel, TFCoN, SeqQ, BlkQ, LoopQ, BodyQ, hi, FA.out, FR.out])) <;> exact rfl) : P := h.mpr q
theorem YsCoN1 {P Q : Prop} (q : Q) (h : P = Q := by (try (conv => lhs; simp -dsimp only [ZK, rvc, capA, appA, litL, mkfv, drawF, headN, pureH, stp, dvc, calleeOf, gcall, pev, eff, newB, okd, og, ogs, ogo, ogp, slv, bltv, opd, litv, strip, one, both, putE, St.put, look, gdOf, gdv, picka, pickv, pickw, binv, bini, bins, binb, binp, binq, isSlT, bina, shp, eqCells, unv, convv, nilv, faddv, addp, idxav, idxp, load1, load1m, loadn, loadnm, loadv, hget, hset, hrep, hdel, slicev, slice3v, bnd, shift1, lenv, capv, IntKind.bits, extractv, fieldv, indexv, min2v, max2v, mkiv, tasv, tasz, cellsA, fillA, buildv, stC, oneC, rowMB, intsA, plN, appE, appZ, appC, appS, srcB, appNZ, appNC, VwL, srcC, srcZ, srcM, isBoolT, isPtrT, isSliceT, uOk, Value.oneCell', Nat.reducePow, Int.reducePow, Nat.reduceAdd, Nat.reduceMul, Nat.reduceSub, Nat.reduceLT, Nat.reduceLeDiff, Nat.reduceEqDiff, Nat.reduceBEq, Nat.reduceDiv, Nat.reduceMod, ↓reduceIte, reduceCtorEq, Int.reduceToNat, Int.reduceLT, Int.reduceLE, drawSF, hdel, TFCoN, SeqQ, BlkQ, LoopQ, BodyQ, gq, FA.out, FR.out])) <;> exact rfl) : P := h.mpr q
structure Gt where
  N : Int
  I : Int
  S : ByteArray
  F : Bool
abbrev gtv (q : Gt) : List AV := [iv .u64 q.N, iv .i64 q.I, .lit (.string q.S), bv q.F]
def rdQ (kind most : Int) (zs : List Int) : Option (Gt × List Int) :=
  if kind = 3 then (fF zs).map fun p => (⟨0, 0, ⟨#[]⟩, p.1⟩, p.2)
  else if kind = 1 then (iF zs).map fun p => (⟨0, p.1, ⟨#[]⟩, false⟩, p.2)
  else if kind = 0 then (nF zs).map fun p => (⟨(p.1 : Nat), 0, ⟨#[]⟩, false⟩, p.2)
  else if kind = 4 then (cF most zs).map fun p => (⟨(p.1 : Nat), 0, ⟨#[]⟩, false⟩, p.2)
  else (tF most zs).map fun p => (⟨0, 0, bstr p.1, false⟩, p.2)
theorem rdF_rdQ (kind most : Int) (zs : List Int) : rdF kind most zs = (rdQ kind most zs).map fun p => (.agg (gtv p.1), p.2) := by
  unfold rdF rdQ
  split
  · rw [Option.map_map]; rfl
  · split
    · rw [Option.map_map]; rfl
    · split
      · rw [Option.map_map]; rfl
      · split
        · rw [Option.map_map]; rfl
        · rw [Option.map_map]; rfl
theorem rdQ_sf (kind most : Int) : SufF (rdQ kind most) := fun zs q r hb h => by
  unfold rdQ at h
  split at h
  · cases e : fF zs with
    | none => rw [e] at h; cases h
    | some p => rw [e] at h; cases h; exact fF_sf zs p.1 p.2 hb e
  · split at h
    · cases e : iF zs with
      | none => rw [e] at h; cases h
      | some p => rw [e] at h; cases h; exact iF_sf zs p.1 p.2 hb e
    · split at h
      · cases e : nF zs with
        | none => rw [e] at h; cases h
        | some p => rw [e] at h; cases h; exact nF_sf zs p.1 p.2 hb e
      · split at h
        · cases e : cF most zs with
          | none => rw [e] at h; cases h
          | some p => rw [e] at h; cases h; exact cF_sf most zs p.1 p.2 hb e
        · cases e : tF most zs with
          | none => rw [e] at h; cases h
          | some p => rw [e] at h; cases h; exact tF_sf most zs p.1 p.2 hb e
theorem drop_suf {Z r : List Int} {a k : Nat} (h : r = (Z.drop a).drop k) : Z.drop (Z.length - r.length) = r ∧ Z.length - r.length ≤ Z.length := by
  refine ⟨?_, by omega⟩
  rw [List.drop_drop] at h
  subst h
  rw [List.length_drop]
  by_cases hk : a + k ≤ Z.length
  · rw [show Z.length - (Z.length - (a + k)) = a + k by omega]
  · rw [List.drop_of_length_le (by omega), List.drop_of_length_le (by omega)]
def gc : List (Int × Int) → List Gt → List Int → Option (List Gt × List Int)
  | [], C, zs => some (C, zs)
  | p :: K, C, zs => match rdQ p.1 p.2 zs with
    | none => none
    | some (q, r) => gc K (C ++ [q]) r
def gq : List Gt → List AV
  | [] => []
  | q :: l => iv .u64 q.N :: iv .i64 q.I :: .lit (.string q.S) :: bv q.F :: gq l
theorem gq_len : ∀ l, (gq l).length = l.length * 4
  | [] => rfl
  | q :: l => by simp only [gq, List.length_cons, gq_len l]; omega
theorem gq_app (l : List Gt) (q : Gt) : gq l ++ gtv q = gq (l ++ [q]) := by
  induction l with
  | nil => rfl
  | cons x r ih => simp only [gq, List.cons_append, ih]
theorem five {α : Type} {l : List α} (h : l.length = 5) : ∃ a b c d e, l = [a, b, c, d, e] := by
  match l, h with
  | [a, b, c, d, e], _ => exact ⟨a, b, c, d, e, rfl⟩
structure NQ where
  i : Nat
  C : List Gt
  a : Nat
  b : Nat
  cap : Nat
theorem Post3_some_eq {zl : Nat} {g : AV} {rest : List Int} : Post3 zl (some (g, rest)) = Fn (.tup [g, iv .i64 ((zl - rest.length : Nat) : Int), bv true]) := rfl
theorem Post3_none_eq {zl : Nat} : Post3 zl none = fun r F' => ∃ g, r = gt3 g ∧ F' = [] := rfl
abbrev rsK : List (Int × Int) := [(2, 160), (2, 160), (1, 0), (1, 0), (1, 0)]
theorem rsK_at : ∀ i, i < 5 → ∃ kk mm : Int, (([iv .i64 2, iv .i64 160, iv .i64 2, iv .i64 160, iv .i64 1, iv .i64 0, iv .i64 1, iv .i64 0, iv .i64 1, iv .i64 0] : List AV).drop (i * 2)).take 2 = [iv .i64 kk, iv .i64 mm] ∧ rsK.drop i = (kk, mm) :: rsK.drop (i + 1) ∧ 0 ≤ mm ∧ mm ≤ 1000
  | 0, _ => ⟨2, 160, rfl, rfl, by omega, by omega⟩
  | 1, _ => ⟨2, 160, rfl, rfl, by omega, by omega⟩
  | 2, _ => ⟨1, 0, rfl, rfl, by omega, by omega⟩
  | 3, _ => ⟨1, 0, rfl, rfl, by omega, by omega⟩
  | 4, _ => ⟨1, 0, rfl, rfl, by omega, by omega⟩
  | n + 5, h => by omega
noncomputable def rsA (zl : Nat) : Option (List Gt × List Int) → AV
  | some ([a, b, c, d, e], r) => .tup [siv ⟨a.S, b.S, c.I, d.I, e.I⟩, iv .i64 ((zl - r.length : Nat) : Int), bv (srB ⟨a.S, b.S, c.I, d.I, e.I⟩)]
  | _ => .tup [siv s0, iv .i64 0, bv false]
set_option maxRecDepth 8000 in
set_option maxHeartbeats 8000000 in
theorem rs_ct (Z : List Int) (at_ : Nat) (hat : at_ ≤ Z.length) (hb : Wi.By Z) (hz : Z.length ≤ 6000) (R : Option (List Gt × List Int)) (hR : gc rsK [] (Z.drop at_) = R)
    (hB : ∀ l r, R = some (l, r) → ∀ q ∈ l, q.S.size ≤ 1000) : ACt Tryd.prog 30 [.slz .u8 Z, iv .i64 (at_ : Int)] [] (Fn (rsA Z.length R)) := by
  obtain ⟨W, hW⟩ : ∃ W, W = rsA Z.length R := ⟨_, rfl⟩
  rw [← hW]
  refine ACt.intro Tryd.func30 rfl (by kernel_rfl) (by simp [Tryd.ntmps30]) (fun cx => ?_)
  simp only [argE, Tryd.ntmps30, Tryd.results30]
  first | (have FRx := FR; clear FRx) | have FR := fr0S
  have FA := Sm.mk (TFCoN)
  repeat' first | (apply Sm.mk; refine Ys ?_) | refine WP.seq fun K hK => ?_ | (apply Ob.mk; exact Yo) | refine And.intro (Ob.out ?_) ?_ | refine Y1CoN ?_ | refine YzCoN ?_ | (refine WP.cond rfl (fun hc => ?_) (fun hc => ?_) <;> (try simp only [ZC, reduceCtorEq, ZD] at hc) <;> (try exact absurd hc (by decide)) <;> (try (exfalso; omega))) | refine Rt.mk (And.intro (fun hg => Sm.out ?_) fun hg => Sm.out ?_) | (refine Nu.mk ?_; first | (fail_if_success have := nb1); intro nb1 | (fail_if_success have := nb2); intro nb2 | (fail_if_success have := nb3); intro nb3 | (fail_if_success have := nb4); intro nb4 | (fail_if_success have := nb5); intro nb5 | (fail_if_success have := nb6); intro nb6 | (fail_if_success have := nb7); intro nb7 | (fail_if_success have := nb8); intro nb8 | intro nbz) | (apply Yfr; refine Yf FR fun hFRb FR => ?_) | refine Two.mk ?_ ?_ | (apply Yxc; exact Yx) | refine Cs.mk fun hcs => Sm.out ?_ | go_step | omega | (simp only [maxLen_eq]; omega) | exact trivial
  obtain ⟨KC, hKC⟩ : ∃ KC : List AV, KC = [iv .i64 2, iv .i64 160, iv .i64 2, iv .i64 160, iv .i64 1, iv .i64 0, iv .i64 1, iv .i64 0, iv .i64 1, iv .i64 0] := ⟨_, rfl⟩
  have hKl : KC.length = 10 := by rw [hKC]; rfl
  have hKat := rsK_at
  rw [← hKC] at hKat
  refine WP.loop (Γ := NQ) (fun g => ⟨[(9, iv .i64 (g.i : Int)), (1, iv .i64 (g.a : Int)), (0, .slz .u8 Z), (7, ms nb2 0 5 5), (8, ms g.b 0 g.i g.cap), (4, pt nb1 0)], [(g.b, .cells (gq g.C) (g.cap * 4) 82), (nb2, .cells KC 10 78), (nb1, .cells [.lit (.string ⟨#[]⟩), .lit (.string ⟨#[]⟩), iv .i64 0, iv .i64 0, iv .i64 0] 5 32)]⟩)
    (fun g => g.i ≤ 5 ∧ g.C.length = g.i ∧ g.a ≤ Z.length ∧ g.i ≤ g.cap ∧ g.cap ≤ 9223372036854775807 ∧ gc (rsK.drop g.i) g.C (Z.drop g.a) = R) (fun g => 5 - g.i) ⟨0, [], at_, nb3, 0⟩
    ⟨by simp, rfl, hat, by simp, by simp, hR⟩ (Sub.pick (by simp [pickB, hget, hdel, FR.out, hKC, gq]) (by simp [look, hKC, gq])) ?_
  intro ⟨i, C, a, b, cap⟩ ⟨g1, g2, g3, g4, g5, g6⟩
  simp only at g1 g2 g3 g4 g5 g6 ⊢
  (refine WP.nd fun hnd => ?_; simp only [ndF, fresh_cons, fresh_nil, and_true, ne_eq] at hnd; replace FR := Sm.mk (And.intro hnd FR.out); clear hnd)
  have hgl := gq_len C
  rw [g2] at hgl
  by_cases hi : i < 5
  · have k1 : decide ((i : Int) < 5) = true := decide_eq_true (by omega)
    obtain ⟨kk, mm, hk, hd, hm1, hm2⟩ := hKat i hi
    have w1 : IntKind.i64.wrap ((i : Int) + 1) = ((i + 1 : Nat) : Int) := by rw [wrap_i64 (by omega) (by omega)]; omega
    have t1 : ((i : Nat) : Int).toNat = i := by omega
    have c8 := refGet_ct Z a kk mm g3 hb hz (by omega) (by omega)
    rw [hd, gc] at g6
    have hap := gq_app C
    have i2 : i * 2 + 2 ≤ 10 := by omega
    obtain ⟨GC, hGC⟩ : ∃ GC, GC = gq C := ⟨_, rfl⟩
    rw [← hGC] at hgl hap ⊢
    rw [rdF_rdQ] at c8
    cases hq : rdQ kk mm (Z.drop a) with
    | none =>
      rw [hq] at c8 g6
      rw [Option.map_none, Post3_none_eq] at c8
      have hWn : W = .tup [siv s0, iv .i64 0, bv false] := by rw [hW, ← g6]; rfl
      first | (have FRx := FR; clear FRx) | have FR := fr0S
      have FA := Sm.mk (And.intro TFCoN (And.intro k1 (And.intro hk (And.intro hKl (And.intro t1 i2)))))
      repeat' first | (apply Sm.mk; refine YsCoN0 ?_) | refine WP.seq fun K hK => ?_ | (apply Ob.mk; exact Yo) | refine And.intro (Ob.out ?_) ?_ | refine Y1CoN ?_ | (refine CallV.ex (F := []) (List.Perm.refl _) (c8) (fun g => Sm.out ?_)) | refine YzCoN ?_ | (refine WP.cond rfl (fun hc => ?_) (fun hc => ?_) <;> (try simp only [ZC, reduceCtorEq, ZD] at hc) <;> (try exact absurd hc (by decide)) <;> (try (exfalso; omega))) | refine Rt.mk (And.intro (fun hg => Sm.out ?_) fun hg => Sm.out ?_) | (refine Nu.mk ?_; first | (fail_if_success have := nb1); intro nb1 | (fail_if_success have := nb2); intro nb2 | (fail_if_success have := nb3); intro nb3 | (fail_if_success have := nb4); intro nb4 | (fail_if_success have := nb5); intro nb5 | (fail_if_success have := nb6); intro nb6 | (fail_if_success have := nb7); intro nb7 | (fail_if_success have := nb8); intro nb8 | intro nbz) | (apply Yfr; refine Yf FR fun hFRb FR => ?_) | refine Two.mk ?_ ?_ | (apply Yxc; exact Yx) | refine Cs.mk fun hcs => Sm.out ?_ | go_step | omega | (simp only [maxLen_eq]; omega) | exact trivial
      (have FA := Sm.mk (And.intro hWn FA.out); refine Yg ?_; try exact trivial)
    | some p =>
      obtain ⟨q, r⟩ := p
      rw [hq] at c8 g6
      rw [Option.map_some, Post3_some_eq] at c8
      obtain ⟨k, hk2⟩ := rdQ_sf kk mm (Z.drop a) q r (hb.drop a) hq
      obtain ⟨s1, s2⟩ := drop_suf hk2
      obtain ⟨A1, hA1⟩ : ∃ A1, A1 = Z.length - r.length := ⟨_, rfl⟩
      rw [← hA1] at c8 s1 s2
      simp only at g6
      have hap := hap q
      obtain ⟨qN, qI, qS, qF⟩ := q
      try simp only at hap
      obtain ⟨GD, hGD⟩ : ∃ GD, GD = gq (C ++ [⟨qN, qI, qS, qF⟩]) := ⟨_, rfl⟩
      rw [← hGD] at hap
      have hGl : GD.length = i * 4 + 4 := by rw [← hap, List.length_append, hgl]; rfl
      have hE : GC ++ [iv .u64 qN, iv .i64 qI, .lit (.string qS), bv qF] = GD := hap
      have i4 : (i + 1) * 4 = i * 4 + 4 := by omega
      first | (have FRx := FR; clear FRx) | have FR := fr0S
      have FA := Sm.mk (And.intro TFCoN (And.intro k1 (And.intro hk (And.intro hKl (And.intro t1 (And.intro i2 (And.intro w1 (And.intro hgl hE))))))))
      repeat' first | (apply Sm.mk; refine YsCoN0 ?_) | refine WP.seq fun K hK => ?_ | (apply Ob.mk; exact Yo) | refine And.intro (Ob.out ?_) ?_ | refine Y1CoN ?_ | refine Yc (c := c8) (r := ?_) | refine YzCoN ?_ | (refine WP.cond rfl (fun hc => ?_) (fun hc => ?_) <;> (try simp only [ZC, reduceCtorEq, ZD] at hc) <;> (try exact absurd hc (by decide)) <;> (try (exfalso; omega))) | refine Rt.mk (And.intro (fun hg => Sm.out ?_) fun hg => Sm.out ?_) | (refine Nu.mk ?_; first | (fail_if_success have := nb1); intro nb1 | (fail_if_success have := nb2); intro nb2 | (fail_if_success have := nb3); intro nb3 | (fail_if_success have := nb4); intro nb4 | (fail_if_success have := nb5); intro nb5 | (fail_if_success have := nb6); intro nb6 | (fail_if_success have := nb7); intro nb7 | (fail_if_success have := nb8); intro nb8 | intro nbz) | (apply Yfr; refine Yf FR fun hFRb FR => ?_) | refine Two.mk ?_ ?_ | (apply Yxc; exact Yx) | refine Cs.mk fun hcs => Sm.out ?_ | go_step | omega | (simp only [maxLen_eq]; omega) | exact trivial
      all_goals exact ⟨⟨i + 1, C ++ [⟨qN, qI, qS, qF⟩], A1, nb6, nb7⟩, ⟨by simp only; omega, by simp only [List.length_append, List.length_cons, List.length_nil]; omega, s2, by simp only; omega, by simp only; omega, by simp only; rw [s1]; exact g6⟩, by simp only; omega, (Sub.pick (by simp [pickB, hget, hdel, FR.out, ← hGD, hGl]) (by simp [look, ← hGD, hGl]))⟩
  · obtain rfl : i = 5 := by omega
    have k1 : decide (((5 : Nat) : Int) < 5) = false := by decide
    have g6 : some (C, Z.drop a) = R := g6
    obtain ⟨qa, qb, qc, qd, qe, rfl⟩ := five g2
    have hz1 := hB _ _ g6.symm qa (by simp)
    have hz2 := hB _ _ g6.symm qb (by simp)
    obtain ⟨aN, aI, aS, aF⟩ := qa
    obtain ⟨bN, bI, bS, bF⟩ := qb
    obtain ⟨cN, cI, cS, cF⟩ := qc
    obtain ⟨dN, dI, dS, dF⟩ := qd
    obtain ⟨eN, eI, eS, eF⟩ := qe
    simp only at hz1 hz2
    have cR := rsright_ct ⟨aS, bS, cI, dI, eI⟩ ⟨hz1, hz2⟩
    have ha : Z.length - (Z.drop a).length = a := by rw [List.length_drop]; omega
    have hW2 : W = rsA Z.length (some ([⟨aN, aI, aS, aF⟩, ⟨bN, bI, bS, bF⟩, ⟨cN, cI, cS, cF⟩, ⟨dN, dI, dS, dF⟩, ⟨eN, eI, eS, eF⟩], Z.drop a)) := by rw [hW, ← g6]
    simp only [rsA, ha] at hW2
    obtain ⟨rb, hrb⟩ : ∃ rb, rb = srB ⟨aS, bS, cI, dI, eI⟩ := ⟨_, rfl⟩
    rw [← hrb] at cR hW2
    clear hB hR g6 hW hKat hrb
    first | (have FRx := FR; clear FRx) | have FR := fr0S
    have FA := Sm.mk (And.intro TFCoN k1)
    repeat' first | (apply Sm.mk; refine YsCoN1 ?_) | refine WP.seq fun K hK => ?_ | (apply Ob.mk; exact Yo) | refine And.intro (Ob.out ?_) ?_ | refine Y1CoN ?_ | refine Yc (c := cR) (r := ?_) | refine YzCoN ?_ | (refine WP.cond rfl (fun hc => ?_) (fun hc => ?_) <;> (try simp only [ZC, reduceCtorEq, ZD] at hc) <;> (try exact absurd hc (by decide)) <;> (try (exfalso; omega))) | refine Rt.mk (And.intro (fun hg => Sm.out ?_) fun hg => Sm.out ?_) | (refine Nu.mk ?_; first | (fail_if_success have := nb1); intro nb1 | (fail_if_success have := nb2); intro nb2 | (fail_if_success have := nb3); intro nb3 | (fail_if_success have := nb4); intro nb4 | (fail_if_success have := nb5); intro nb5 | (fail_if_success have := nb6); intro nb6 | (fail_if_success have := nb7); intro nb7 | (fail_if_success have := nb8); intro nb8 | intro nbz) | (apply Yfr; refine Yf FR fun hFRb FR => ?_) | refine Two.mk ?_ ?_ | (apply Yxc; exact Yx) | refine Cs.mk fun hcs => Sm.out ?_ | go_step | omega | (simp only [maxLen_eq]; omega) | exact trivial
    (have FA := Sm.mk (And.intro hW2 FA.out); refine Yg ?_; try exact trivial)
theorem rdQ_sz {k m : Int} {zs r : List Int} {q : Gt} (hm : m ≤ 1000) (h : rdQ k m zs = some (q, r)) : q.S.size ≤ 1000 := by
  unfold rdQ at h
  split at h
  · cases e : fF zs with
    | none => rw [e] at h; cases h
    | some p => rw [e] at h; cases h; exact Nat.zero_le _
  · split at h
    · cases e : iF zs with
      | none => rw [e] at h; cases h
      | some p => rw [e] at h; cases h; exact Nat.zero_le _
    · split at h
      · cases e : nF zs with
        | none => rw [e] at h; cases h
        | some p => rw [e] at h; cases h; exact Nat.zero_le _
      · split at h
        · cases e : cF m zs with
          | none => rw [e] at h; cases h
          | some p => rw [e] at h; cases h; exact Nat.zero_le _
        · cases e : tF m zs with
          | none => rw [e] at h; cases h
          | some p =>
            obtain ⟨l, r'⟩ := p
            rw [e] at h
            cases h
            have := tF_len e
            rw [bstr_size]
            show l.length ≤ 1000
            omega
theorem gc_sz : ∀ (K : List (Int × Int)) (C : List Gt) (zs : List Int) (l : List Gt) (r : List Int), (∀ p ∈ K, p.2 ≤ 1000) → (∀ q ∈ C, q.S.size ≤ 1000) → gc K C zs = some (l, r) → ∀ q ∈ l, q.S.size ≤ 1000
  | [], C, zs, l, r, _, hC, h => by
    simp only [gc, Option.some.injEq, Prod.mk.injEq] at h
    obtain ⟨rfl, -⟩ := h
    exact hC
  | p :: K, C, zs, l, r, hK, hC, h => by
    rw [gc] at h
    cases e : rdQ p.1 p.2 zs with
    | none => rw [e] at h; cases h
    | some x =>
      obtain ⟨q, r'⟩ := x
      rw [e] at h
      refine gc_sz K (C ++ [q]) r' l r (fun y hy => hK y (List.mem_cons_of_mem _ hy)) (fun y hy => ?_) h
      rcases List.mem_append.1 hy with hy | hy
      · exact hC y hy
      · rw [List.mem_singleton.1 hy]; exact rdQ_sz (hK p (List.mem_cons_self ..)) e
def sgX (zs : List Int) : Option (Sl × List Int) :=
  match tF 160 zs with
  | none => none
  | some (g, z1) => match tF 160 z1 with
    | none => none
    | some (r, z2) => match iF z2 with
      | none => none
      | some (w, z3) => match iF z3 with
        | none => none
        | some (f, z4) => match iF z4 with
          | none => none
          | some (t, z5) => some (⟨bstr g, bstr r, w, f, t⟩, z5)
theorem rdQ_t (m : Int) (zs : List Int) : rdQ 2 m zs = (tF m zs).map fun p => (⟨0, 0, bstr p.1, false⟩, p.2) := rfl
theorem rdQ_i (m : Int) (zs : List Int) : rdQ 1 m zs = (iF zs).map fun p => (⟨0, p.1, ⟨#[]⟩, false⟩, p.2) := rfl
theorem rsA_X (zl : Nat) (zs : List Int) : rsA zl (gc rsK [] zs) = (match sgX zs with
    | none => .tup [siv s0, iv .i64 0, bv false]
    | some (k, r) => .tup [siv k, iv .i64 ((zl - r.length : Nat) : Int), bv (srB k)]) := by
  unfold sgX
  simp only [rsK, gc, rdQ_t, rdQ_i]
  cases e1 : tF 160 zs with
  | none => rfl
  | some p =>
    obtain ⟨g, z1⟩ := p
    simp only [Option.map_some]
    cases e2 : tF 160 z1 with
    | none => rfl
    | some p =>
      obtain ⟨r, z2⟩ := p
      simp only [Option.map_some]
      cases e3 : iF z2 with
      | none => rfl
      | some p =>
        obtain ⟨p, z3⟩ := p
        simp only [Option.map_some]
        cases e4 : iF z3 with
        | none => rfl
        | some p =>
          obtain ⟨e, z4⟩ := p
          simp only [Option.map_some]
          cases e5 : iF z4 with
          | none => rfl
          | some p => rfl
theorem rF_size {zs : List Int} (hb : By zs) : ∀ d i, zs.length - i ≤ d → zs.length - i ≤ 4 * (rF zs i).length
  | 0, i, h => by omega
  | d + 1, i, h => by
    by_cases hi : i < zs.length
    · have h1 := elR_in hb hi
      have h2 := elR_w zs i
      rw [rF_step hi, List.length_cons]
      have := rF_size hb d (i + (elR zs i).2) (by omega)
      omega
    · omega
theorem rn_size {zs : List Int} (hb : By zs) : zs.length ≤ 4 * (rn zs).length := by
  have := rF_size hb zs.length 0 (by omega)
  rw [rF_zero] at this
  omega
theorem bs_len (s : ByteArray) : (bs s).length = s.size := by
  obtain ⟨e, hb⟩ := s_bstr s
  conv => rhs; rw [e, bstr_size]
open Classical in
theorem nmS_size {s : ByteArray} (h : nmS s = true) : s.size ≤ 96 := by
  obtain ⟨e, hb⟩ := s_bstr s
  have := rn_size hb
  have hl := bs_len s
  unfold nmS nmB at h
  have h := (of_decide_eq_true h).2.1
  have hl : (ub s.data.toList).length = s.size := hl
  omega
theorem glB_size {s : ByteArray} (h : glB s = true) : s.size ≤ 160 := by
  obtain ⟨e, hb⟩ := s_bstr s
  have := rn_size hb
  have hl : (ub s.data.toList).length = s.size := bs_len s
  unfold glB at h
  simp only [Bool.and_eq_true, decide_eq_true_eq] at h
  have h := h.2.2
  have h : ((rn (ub s.data.toList)).length : Int) ≤ 40 := h
  omega
theorem sr_bd {s : Sl} (h : srB s = true) : s.nm.size ≤ 96 ∧ s.gl.size ≤ 160 ∧ (0 ≤ s.w ∧ s.w ≤ 2) ∧ 0 ≤ s.f ∧ s.f < s.t ∧ s.t ≤ 253402300799 := by
  unfold srB at h
  simp only [Bool.and_eq_true, decide_eq_true_eq] at h
  exact ⟨nmS_size h.1, glB_size h.2.1, h.2.2.1, h.2.2.2.1, h.2.2.2.2.1, h.2.2.2.2.2⟩
theorem sgX_put {k : Sl} (h : srB k = true) (rest : List Int) : sgX (sL k ++ rest) = some (k, rest) := by
  obtain ⟨h1, h2, h3, h4, h5, h6⟩ := sr_bd h
  obtain ⟨g, r, w, f, t⟩ := k
  simp only at h1 h2 h3 h4 h5 h6
  have e0 : sL ⟨g, r, w, f, t⟩ ++ rest = putL 0 g.size ++ strL g ++ (putL 0 r.size ++ strL r ++ (intL w ++ (intL f ++ (intL t ++ rest)))) := by simp [sL, txL]
  rw [e0]
  unfold sgX
  have p1 : ∀ X, tF 160 (putL 0 g.size ++ strL g ++ X) = some (strL g, X) := fun X => tF_put g 160 X (by omega) (by omega)
  have p2 : ∀ X, tF 160 (putL 0 r.size ++ strL r ++ X) = some (strL r, X) := fun X => tF_put r 160 X h2 (by omega)
  rw [p1]
  simp only
  rw [p2]
  simp only
  rw [iF_put w _ (by omega) (by omega)]
  simp only
  rw [iF_put f _ (by omega) (by omega)]
  simp only
  rw [iF_put t _ (by omega) (by omega)]
  simp only [bstr_strL]
theorem by_app {a b : List Int} (h : Wi.By (a ++ b)) : Wi.By b := fun x hx => h x (List.mem_append_right _ hx)
theorem sgX_canon {zs r : List Int} {k : Sl} (hb : Wi.By zs) (h : sgX zs = some (k, r)) : zs = sL k ++ r := by
  unfold sgX at h
  split at h
  · cases h
  rename_i g z1 e1
  split at h
  · cases h
  rename_i rr z2 e2
  split at h
  · cases h
  rename_i p z3 e3
  split at h
  · cases h
  rename_i e z4 e4
  split at h
  · cases h
  rename_i s z5 e5
  cases h
  have q1 := (tF_canon hb e1).1
  have b1 : Wi.By z1 := by_app (q1 ▸ hb)
  have q2 := (tF_canon b1 e2).1
  have b2 : Wi.By z2 := by_app (q2 ▸ b1)
  have q3 := iF_canon b2 e3
  have b3 : Wi.By z3 := by_app (q3 ▸ b2)
  have q4 := iF_canon b3 e4
  have b4 : Wi.By z4 := by_app (q4 ▸ b3)
  have q5 := iF_canon b4 e5
  rw [q1, q2, q3, q4, q5]
  simp [sL, txL]
theorem sgS_X (zs : List Int) : sgS (some zs) = (match sgX zs with
    | none => (s0, none)
    | some (k, r) => if srB k = true then (k, some r) else (s0, none)) := by
  unfold sgS sgX
  cases e1 : tF 160 zs with
  | none => rw [show tS 160 (some zs) = ([], none) from rS_bad e1]; rfl
  | some p =>
    obtain ⟨g, z1⟩ := p
    rw [show tS 160 (some zs) = (g, some z1) from rS_good e1]
    simp only
    cases e2 : tF 160 z1 with
    | none => rw [show tS 160 (some z1) = ([], none) from rS_bad e2]; rfl
    | some p =>
      obtain ⟨r, z2⟩ := p
      rw [show tS 160 (some z1) = (r, some z2) from rS_good e2]
      simp only
      cases e3 : iF z2 with
      | none => rw [show iS (some z2) = (0, none) from rS_bad e3]; rfl
      | some p =>
        obtain ⟨p, z3⟩ := p
        rw [show iS (some z2) = (p, some z3) from rS_good e3]
        simp only
        cases e4 : iF z3 with
        | none => rw [show iS (some z3) = (0, none) from rS_bad e4]; rfl
        | some p' =>
          obtain ⟨e, z4⟩ := p'
          rw [show iS (some z3) = (e, some z4) from rS_good e4]
          simp only
          cases e5 : iF z4 with
          | none => rw [show iS (some z4) = (0, none) from rS_bad e5]; rfl
          | some p' =>
            obtain ⟨s, z5⟩ := p'
            rw [show iS (some z4) = (s, some z5) from rS_good e5]
            simp only [Option.isSome_some, Bool.true_and]
end Go.Proofs.YtaffbklkjjmmdaaDoor
