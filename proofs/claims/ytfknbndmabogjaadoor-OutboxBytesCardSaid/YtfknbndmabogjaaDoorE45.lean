/-
  The walks and the laws that the statement leans on, part 45.
-/
import Derived.Test.YtfknbndmabogjaaDoorE10
import Derived.Test.YtfknbndmabogjaaDoorE39
import Derived.Test.YtfknbndmabogjaaDoorE44
namespace Go.Proofs.YtfknbndmabogjaaDoor
open Go Wi
set_option linter.unusedVariables false
set_option linter.unusedSimpArgs false
set_option linter.defProp false
def TFCoN :=
  And.intro (And.intro (And.intro (And.intro (And.intro (And.intro tyc0 tyc3) (And.intro zmb3 tyc4)) (And.intro (And.intro zmb4 tyc5) (And.intro zmb5 (And.intro tyc9 zmb9)))) (And.intro (And.intro (And.intro tyc25 zmb25) (And.intro tyc29 (And.intro foff29_0 fpart29_0))) (And.intro (And.intro foff29_1 fpart29_1) (And.intro foff29_2 (And.intro fpart29_2 foff29_3))))) (And.intro (And.intro (And.intro (And.intro fpart29_3 foff29_4) (And.intro fpart29_4 (And.intro fe29 zmb29))) (And.intro (And.intro bldT29 tyc53) (And.intro elt53 (And.intro mkz53 apT53)))) (And.intro (And.intro (And.intro elk53 zmb53) (And.intro tyc125 (And.intro foff125_0 fpart125_0))) (And.intro (And.intro foff125_1 fpart125_1) (And.intro foff125_2 (And.intro fpart125_2 foff125_3)))))) (And.intro (And.intro (And.intro (And.intro (And.intro fpart125_3 fe125) (And.intro zmb125 (And.intro bldT125 tyc126))) (And.intro (And.intro tyc129 foff129_0) (And.intro fpart129_0 (And.intro foff129_1 fpart129_1)))) (And.intro (And.intro (And.intro fe129 zmb129) (And.intro bldT129 (And.intro tyc130 elt130))) (And.intro (And.intro mkz130 mkc130) (And.intro apT130 (And.intro elk130 zmb130))))) (And.intro (And.intro (And.intro (And.intro tyc131 elt131) (And.intro mkz131 (And.intro mkc131 apT131))) (And.intro (And.intro elk131 zmb131) (And.intro Tryd.underlying0 (And.intro Tryd.underlying3 Tryd.underlying4)))) (And.intro (And.intro (And.intro Tryd.underlying5 Tryd.underlying9) (And.intro Tryd.underlying25 (And.intro Tryd.underlying29 Tryd.underlying53))) (And.intro (And.intro Tryd.underlying125 Tryd.underlying126) (And.intro Tryd.underlying129 (And.intro Tryd.underlying130 Tryd.underlying131))))))
theorem Y1CoN {G R : Prop} (r : R) (h : R → G := by intro r; first | (apply WP.region; exact rvc_sound _ _ (Sm.out r)) | exact WP.drawP (ia := 21) (is := 22) (k := 23) mixed (by decide +kernel) (by decide +kernel) (Sm.out r) | exact WP.drawS (is := 4) (k := 7) mixed (by decide +kernel) (by decide +kernel) (Sm.out r) | exact WP.drawK rfl mixed (by decide +kernel) (Sm.out r) | (apply WP.block; exact r) | (apply WP.skip; exact Yq r) | (apply WP.exit; exact Yq r) | (apply WP.ret; exact Sm.out r) | exact WP.cond rfl (fun _ => r) (fun hg => absurd hg (by decide)) | exact WP.cond rfl (fun hg => absurd hg (by decide)) (fun _ => r) | exact Rt.mk (And.intro (fun _ => Sm.out r) fun hg => absurd hg (by decide)) | exact Rt.mk (And.intro (fun hg => absurd hg (by decide)) fun _ => Sm.out r)) : G := h r
theorem YzCoN {G R : Prop} (r : R) (h : R → G := by intro r; first | (apply ExG.no; exact Sm.out r) | (apply Or.inl; apply ExG.no; exact Sm.out r) | exact Or.inl (And.intro (fun hg => absurd hg (by decide)) (ExG.no (Sm.out r)))) : G := h r
theorem YsCoN0 {P Q : Prop} (q : Q) (h : P = Q := by (try (conv => lhs; simp -dsimp only [ZK, rvc, capA, appA, litL, mkfv, drawF, headN, pureH, stp, dvc, calleeOf, gcall, pev, eff, newB, okd, og, ogs, ogo, ogp, slv, bltv, opd, litv, strip, one, both, putE, St.put, look, gdOf, gdv, picka, pickv, pickw, binv, bini, bins, binb, binp, binq, isSlT, bina, shp, eqCells, unv, convv, nilv, faddv, addp, idxav, idxp, load1, load1m, loadn, loadnm, loadv, hget, hset, hrep, hdel, slicev, slice3v, bnd, shift1, lenv, capv, IntKind.bits, extractv, fieldv, indexv, min2v, max2v, mkiv, tasv, tasz, cellsA, fillA, buildv, stC, oneC, rowMB, intsA, plN, appE, appZ, appC, appS, srcB, appNZ, appNC, VwL, srcC, srcZ, srcM, isBoolT, isPtrT, isSliceT, uOk, Value.oneCell', Nat.reducePow, Int.reducePow, Nat.reduceAdd, Nat.reduceMul, Nat.reduceSub, Nat.reduceLT, Nat.reduceLeDiff, Nat.reduceEqDiff, Nat.reduceBEq, Nat.reduceDiv, Nat.reduceMod, ↓reduceIte, reduceCtorEq, Int.reduceToNat, Int.reduceLT, Int.reduceLE, drawSF, hdel, TFCoN, SeqQ, BlkQ, LoopQ, BodyQ, hi, FA.out, FR.out])) <;> exact rfl) : P := h.mpr q
theorem YsCoN1 {P Q : Prop} (q : Q) (h : P = Q := by (try (conv => lhs; simp -dsimp only [ZK, rvc, capA, appA, litL, mkfv, drawF, headN, pureH, stp, dvc, calleeOf, gcall, pev, eff, newB, okd, og, ogs, ogo, ogp, slv, bltv, opd, litv, strip, one, both, putE, St.put, look, gdOf, gdv, picka, pickv, pickw, binv, bini, bins, binb, binp, binq, isSlT, bina, shp, eqCells, unv, convv, nilv, faddv, addp, idxav, idxp, load1, load1m, loadn, loadnm, loadv, hget, hset, hrep, hdel, slicev, slice3v, bnd, shift1, lenv, capv, IntKind.bits, extractv, fieldv, indexv, min2v, max2v, mkiv, tasv, tasz, cellsA, fillA, buildv, stC, oneC, rowMB, intsA, plN, appE, appZ, appC, appS, srcB, appNZ, appNC, VwL, srcC, srcZ, srcM, isBoolT, isPtrT, isSliceT, uOk, Value.oneCell', Nat.reducePow, Int.reducePow, Nat.reduceAdd, Nat.reduceMul, Nat.reduceSub, Nat.reduceLT, Nat.reduceLeDiff, Nat.reduceEqDiff, Nat.reduceBEq, Nat.reduceDiv, Nat.reduceMod, ↓reduceIte, reduceCtorEq, Int.reduceToNat, Int.reduceLT, Int.reduceLE, drawSF, hdel, TFCoN, SeqQ, BlkQ, LoopQ, BodyQ, gq, FA.out, FR.out])) <;> exact rfl) : P := h.mpr q
structure Gt where
  N : Int
  I : Int
  S : ByteArray
  F : Bool
abbrev gtv (q : Gt) : List AV := [iv .u64 q.N, iv .i64 q.I, .lit (.string q.S), bv q.F]
def rdQ (kind most : Int) (zs : List Int) : Option (Gt × List Int) :=
  if kind = 3 then (fF zs).map fun p => (⟨0, 0, ⟨#[]⟩, p.1⟩, p.2)
  else if kind = 1 then (iF zs).map fun p => (⟨0, p.1, ⟨#[]⟩, false⟩, p.2)
  else if kind = 0 then (nF zs).map fun p => (⟨(p.1 : Nat), 0, ⟨#[]⟩, false⟩, p.2)
  else if kind = 4 then (cF most zs).map fun p => (⟨(p.1 : Nat), 0, ⟨#[]⟩, false⟩, p.2)
  else (tF most zs).map fun p => (⟨0, 0, bstr p.1, false⟩, p.2)
theorem rdF_rdQ (kind most : Int) (zs : List Int) : rdF kind most zs = (rdQ kind most zs).map fun p => (.agg (gtv p.1), p.2) := by
  unfold rdF rdQ
  split
  · rw [Option.map_map]; rfl
  · split
    · rw [Option.map_map]; rfl
    · split
      · rw [Option.map_map]; rfl
      · split
        · rw [Option.map_map]; rfl
        · rw [Option.map_map]; rfl
theorem rdQ_sf (kind most : Int) : SufF (rdQ kind most) := fun zs q r hb h => by
  unfold rdQ at h
  split at h
  · cases e : fF zs with
    | none => rw [e] at h; cases h
    | some p => rw [e] at h; cases h; exact fF_sf zs p.1 p.2 hb e
  · split at h
    · cases e : iF zs with
      | none => rw [e] at h; cases h
      | some p => rw [e] at h; cases h; exact iF_sf zs p.1 p.2 hb e
    · split at h
      · cases e : nF zs with
        | none => rw [e] at h; cases h
        | some p => rw [e] at h; cases h; exact nF_sf zs p.1 p.2 hb e
      · split at h
        · cases e : cF most zs with
          | none => rw [e] at h; cases h
          | some p => rw [e] at h; cases h; exact cF_sf most zs p.1 p.2 hb e
        · cases e : tF most zs with
          | none => rw [e] at h; cases h
          | some p => rw [e] at h; cases h; exact tF_sf most zs p.1 p.2 hb e
theorem drop_suf {Z r : List Int} {a k : Nat} (h : r = (Z.drop a).drop k) : Z.drop (Z.length - r.length) = r ∧ Z.length - r.length ≤ Z.length := by
  refine ⟨?_, by omega⟩
  rw [List.drop_drop] at h
  subst h
  rw [List.length_drop]
  by_cases hk : a + k ≤ Z.length
  · rw [show Z.length - (Z.length - (a + k)) = a + k by omega]
  · rw [List.drop_of_length_le (by omega), List.drop_of_length_le (by omega)]
def gc : List (Int × Int) → List Gt → List Int → Option (List Gt × List Int)
  | [], C, zs => some (C, zs)
  | p :: K, C, zs => match rdQ p.1 p.2 zs with
    | none => none
    | some (q, r) => gc K (C ++ [q]) r
def gq : List Gt → List AV
  | [] => []
  | q :: l => iv .u64 q.N :: iv .i64 q.I :: .lit (.string q.S) :: bv q.F :: gq l
theorem gq_len : ∀ l, (gq l).length = l.length * 4
  | [] => rfl
  | q :: l => by simp only [gq, List.length_cons, gq_len l]; omega
theorem gq_app (l : List Gt) (q : Gt) : gq l ++ gtv q = gq (l ++ [q]) := by
  induction l with
  | nil => rfl
  | cons x r ih => simp only [gq, List.cons_append, ih]
theorem five {α : Type} {l : List α} (h : l.length = 5) : ∃ a b c d e, l = [a, b, c, d, e] := by
  match l, h with
  | [a, b, c, d, e], _ => exact ⟨a, b, c, d, e, rfl⟩
structure NQ where
  i : Nat
  C : List Gt
  a : Nat
  b : Nat
  cap : Nat
theorem Post3_some_eq {zl : Nat} {g : AV} {rest : List Int} : Post3 zl (some (g, rest)) = Fn (.tup [g, iv .i64 ((zl - rest.length : Nat) : Int), bv true]) := rfl
theorem Post3_none_eq {zl : Nat} : Post3 zl none = fun r F' => ∃ g, r = gt3 g ∧ F' = [] := rfl
abbrev rkK : List (Int × Int) := [(2, 96), (2, 96), (3, 0), (0, 0), (3, 0)]
theorem rkK_at : ∀ i, i < 5 → ∃ kk mm : Int, (([iv .i64 2, iv .i64 96, iv .i64 2, iv .i64 96, iv .i64 3, iv .i64 0, iv .i64 0, iv .i64 0, iv .i64 3, iv .i64 0] : List AV).drop (i * 2)).take 2 = [iv .i64 kk, iv .i64 mm] ∧ rkK.drop i = (kk, mm) :: rkK.drop (i + 1) ∧ 0 ≤ mm ∧ mm ≤ 1000
  | 0, _ => ⟨2, 96, rfl, rfl, by omega, by omega⟩
  | 1, _ => ⟨2, 96, rfl, rfl, by omega, by omega⟩
  | 2, _ => ⟨3, 0, rfl, rfl, by omega, by omega⟩
  | 3, _ => ⟨0, 0, rfl, rfl, by omega, by omega⟩
  | 4, _ => ⟨3, 0, rfl, rfl, by omega, by omega⟩
  | n + 5, h => by omega
noncomputable def rkA (zl : Nat) : Option (List Gt × List Int) → AV
  | some ([a, b, c, d, e], r) => .tup [kv ⟨a.S, b.S, c.F, d.N, e.F⟩, iv .i64 ((zl - r.length : Nat) : Int), bv (krB ⟨a.S, b.S, c.F, d.N, e.F⟩)]
  | _ => .tup [kv k0, iv .i64 0, bv false]
set_option maxRecDepth 8000 in
set_option maxHeartbeats 8000000 in
theorem rk_ct (Z : List Int) (at_ : Nat) (hat : at_ ≤ Z.length) (hb : Wi.By Z) (hz : Z.length ≤ 60000) (R : Option (List Gt × List Int)) (hR : gc rkK [] (Z.drop at_) = R)
    (hB : ∀ l r, R = some (l, r) → ∀ q ∈ l, q.S.size ≤ 1000) : ACt Tryd.prog 69 [.slz .u8 Z, iv .i64 (at_ : Int)] [] (Fn (rkA Z.length R)) := by
  obtain ⟨W, hW⟩ : ∃ W, W = rkA Z.length R := ⟨_, rfl⟩
  rw [← hW]
  refine ACt.intro Tryd.func69 rfl (by kernel_rfl) (by simp [Tryd.ntmps69]) (fun cx => ?_)
  simp only [argE, Tryd.ntmps69, Tryd.results69]
  first | (have FRx := FR; clear FRx) | have FR := fr0S
  have FA := Sm.mk (TFCoN)
  repeat' first | (apply Sm.mk; refine Ys ?_) | refine WP.seq fun K hK => ?_ | (apply Ob.mk; exact Yo) | refine And.intro (Ob.out ?_) ?_ | refine Y1CoN ?_ | refine YzCoN ?_ | (refine WP.cond rfl (fun hc => ?_) (fun hc => ?_) <;> (try simp only [ZC, reduceCtorEq, ZD] at hc) <;> (try exact absurd hc (by decide)) <;> (try (exfalso; omega))) | refine Rt.mk (And.intro (fun hg => Sm.out ?_) fun hg => Sm.out ?_) | (refine Nu.mk ?_; first | (fail_if_success have := nb1); intro nb1 | (fail_if_success have := nb2); intro nb2 | (fail_if_success have := nb3); intro nb3 | (fail_if_success have := nb4); intro nb4 | (fail_if_success have := nb5); intro nb5 | (fail_if_success have := nb6); intro nb6 | (fail_if_success have := nb7); intro nb7 | (fail_if_success have := nb8); intro nb8 | intro nbz) | (apply Yfr; refine Yf FR fun hFRb FR => ?_) | refine Two.mk ?_ ?_ | (apply Yxc; exact Yx) | refine Cs.mk fun hcs => Sm.out ?_ | go_step | omega | (simp only [maxLen_eq]; omega) | exact trivial
  obtain ⟨KC, hKC⟩ : ∃ KC : List AV, KC = [iv .i64 2, iv .i64 96, iv .i64 2, iv .i64 96, iv .i64 3, iv .i64 0, iv .i64 0, iv .i64 0, iv .i64 3, iv .i64 0] := ⟨_, rfl⟩
  have hKl : KC.length = 10 := by rw [hKC]; rfl
  have hKat := rkK_at
  rw [← hKC] at hKat
  refine WP.loop (Γ := NQ) (fun g => ⟨[(9, iv .i64 (g.i : Int)), (1, iv .i64 (g.a : Int)), (0, .slz .u8 Z), (7, ms nb2 0 5 5), (8, ms g.b 0 g.i g.cap), (4, pt nb1 0)], [(g.b, .cells (gq g.C) (g.cap * 4) 125), (nb2, .cells KC 10 129), (nb1, .cells [.lit (.string ⟨#[]⟩), .lit (.string ⟨#[]⟩), bv false, iv .u64 0, bv false] 5 29)]⟩)
    (fun g => g.i ≤ 5 ∧ g.C.length = g.i ∧ g.a ≤ Z.length ∧ g.i ≤ g.cap ∧ g.cap ≤ 9223372036854775807 ∧ gc (rkK.drop g.i) g.C (Z.drop g.a) = R) (fun g => 5 - g.i) ⟨0, [], at_, nb3, 0⟩
    ⟨by simp, rfl, hat, by simp, by simp, hR⟩ (Sub.pick (by simp [pickB, hget, hdel, FR.out, hKC, gq]) (by simp [look, hKC, gq])) ?_
  intro ⟨i, C, a, b, cap⟩ ⟨g1, g2, g3, g4, g5, g6⟩
  simp only at g1 g2 g3 g4 g5 g6 ⊢
  (refine WP.nd fun hnd => ?_; simp only [ndF, fresh_cons, fresh_nil, and_true, ne_eq] at hnd; replace FR := Sm.mk (And.intro hnd FR.out); clear hnd)
  have hgl := gq_len C
  rw [g2] at hgl
  by_cases hi : i < 5
  · have k1 : decide ((i : Int) < 5) = true := decide_eq_true (by omega)
    obtain ⟨kk, mm, hk, hd, hm1, hm2⟩ := hKat i hi
    have w1 : IntKind.i64.wrap ((i : Int) + 1) = ((i + 1 : Nat) : Int) := by rw [wrap_i64 (by omega) (by omega)]; omega
    have t1 : ((i : Nat) : Int).toNat = i := by omega
    have c8 := refGet_ct Z a kk mm g3 hb hz (by omega) (by omega)
    rw [hd, gc] at g6
    have hap := gq_app C
    have i2 : i * 2 + 2 ≤ 10 := by omega
    obtain ⟨GC, hGC⟩ : ∃ GC, GC = gq C := ⟨_, rfl⟩
    rw [← hGC] at hgl hap ⊢
    rw [rdF_rdQ] at c8
    cases hq : rdQ kk mm (Z.drop a) with
    | none =>
      rw [hq] at c8 g6
      rw [Option.map_none, Post3_none_eq] at c8
      have hWn : W = .tup [kv k0, iv .i64 0, bv false] := by rw [hW, ← g6]; rfl
      first | (have FRx := FR; clear FRx) | have FR := fr0S
      have FA := Sm.mk (And.intro TFCoN (And.intro k1 (And.intro hk (And.intro hKl (And.intro t1 i2)))))
      repeat' first | (apply Sm.mk; refine YsCoN0 ?_) | refine WP.seq fun K hK => ?_ | (apply Ob.mk; exact Yo) | refine And.intro (Ob.out ?_) ?_ | refine Y1CoN ?_ | (refine CallV.ex (F := []) (List.Perm.refl _) (c8) (fun g => Sm.out ?_)) | refine YzCoN ?_ | (refine WP.cond rfl (fun hc => ?_) (fun hc => ?_) <;> (try simp only [ZC, reduceCtorEq, ZD] at hc) <;> (try exact absurd hc (by decide)) <;> (try (exfalso; omega))) | refine Rt.mk (And.intro (fun hg => Sm.out ?_) fun hg => Sm.out ?_) | (refine Nu.mk ?_; first | (fail_if_success have := nb1); intro nb1 | (fail_if_success have := nb2); intro nb2 | (fail_if_success have := nb3); intro nb3 | (fail_if_success have := nb4); intro nb4 | (fail_if_success have := nb5); intro nb5 | (fail_if_success have := nb6); intro nb6 | (fail_if_success have := nb7); intro nb7 | (fail_if_success have := nb8); intro nb8 | intro nbz) | (apply Yfr; refine Yf FR fun hFRb FR => ?_) | refine Two.mk ?_ ?_ | (apply Yxc; exact Yx) | refine Cs.mk fun hcs => Sm.out ?_ | go_step | omega | (simp only [maxLen_eq]; omega) | exact trivial
      (have FA := Sm.mk (And.intro hWn FA.out); refine Yg ?_; try exact trivial)
    | some p =>
      obtain ⟨q, r⟩ := p
      rw [hq] at c8 g6
      rw [Option.map_some, Post3_some_eq] at c8
      obtain ⟨k, hk2⟩ := rdQ_sf kk mm (Z.drop a) q r (hb.drop a) hq
      obtain ⟨s1, s2⟩ := drop_suf hk2
      obtain ⟨A1, hA1⟩ : ∃ A1, A1 = Z.length - r.length := ⟨_, rfl⟩
      rw [← hA1] at c8 s1 s2
      simp only at g6
      have hap := hap q
      obtain ⟨qN, qI, qS, qF⟩ := q
      try simp only at hap
      obtain ⟨GD, hGD⟩ : ∃ GD, GD = gq (C ++ [⟨qN, qI, qS, qF⟩]) := ⟨_, rfl⟩
      rw [← hGD] at hap
      have hGl : GD.length = i * 4 + 4 := by rw [← hap, List.length_append, hgl]; rfl
      have hE : GC ++ [iv .u64 qN, iv .i64 qI, .lit (.string qS), bv qF] = GD := hap
      have i4 : (i + 1) * 4 = i * 4 + 4 := by omega
      first | (have FRx := FR; clear FRx) | have FR := fr0S
      have FA := Sm.mk (And.intro TFCoN (And.intro k1 (And.intro hk (And.intro hKl (And.intro t1 (And.intro i2 (And.intro w1 (And.intro hgl hE))))))))
      repeat' first | (apply Sm.mk; refine YsCoN0 ?_) | refine WP.seq fun K hK => ?_ | (apply Ob.mk; exact Yo) | refine And.intro (Ob.out ?_) ?_ | refine Y1CoN ?_ | refine Yc (c := c8) (r := ?_) | refine YzCoN ?_ | (refine WP.cond rfl (fun hc => ?_) (fun hc => ?_) <;> (try simp only [ZC, reduceCtorEq, ZD] at hc) <;> (try exact absurd hc (by decide)) <;> (try (exfalso; omega))) | refine Rt.mk (And.intro (fun hg => Sm.out ?_) fun hg => Sm.out ?_) | (refine Nu.mk ?_; first | (fail_if_success have := nb1); intro nb1 | (fail_if_success have := nb2); intro nb2 | (fail_if_success have := nb3); intro nb3 | (fail_if_success have := nb4); intro nb4 | (fail_if_success have := nb5); intro nb5 | (fail_if_success have := nb6); intro nb6 | (fail_if_success have := nb7); intro nb7 | (fail_if_success have := nb8); intro nb8 | intro nbz) | (apply Yfr; refine Yf FR fun hFRb FR => ?_) | refine Two.mk ?_ ?_ | (apply Yxc; exact Yx) | refine Cs.mk fun hcs => Sm.out ?_ | go_step | omega | (simp only [maxLen_eq]; omega) | exact trivial
      all_goals exact ⟨⟨i + 1, C ++ [⟨qN, qI, qS, qF⟩], A1, nb6, nb7⟩, ⟨by simp only; omega, by simp only [List.length_append, List.length_cons, List.length_nil]; omega, s2, by simp only; omega, by simp only; omega, by simp only; rw [s1]; exact g6⟩, by simp only; omega, (Sub.pick (by simp [pickB, hget, hdel, FR.out, ← hGD, hGl]) (by simp [look, ← hGD, hGl]))⟩
  · obtain rfl : i = 5 := by omega
    have k1 : decide (((5 : Nat) : Int) < 5) = false := by decide
    have g6 : some (C, Z.drop a) = R := g6
    obtain ⟨qa, qb, qc, qd, qe, rfl⟩ := five g2
    have hz1 := hB _ _ g6.symm qa (by simp)
    have hz2 := hB _ _ g6.symm qb (by simp)
    obtain ⟨aN, aI, aS, aF⟩ := qa
    obtain ⟨bN, bI, bS, bF⟩ := qb
    obtain ⟨cN, cI, cS, cF⟩ := qc
    obtain ⟨dN, dI, dS, dF⟩ := qd
    obtain ⟨eN, eI, eS, eF⟩ := qe
    simp only at hz1 hz2
    have cR := rkright_ct ⟨aS, bS, cF, dN, eF⟩ ⟨hz1, hz2⟩
    have ha : Z.length - (Z.drop a).length = a := by rw [List.length_drop]; omega
    have hW2 : W = rkA Z.length (some ([⟨aN, aI, aS, aF⟩, ⟨bN, bI, bS, bF⟩, ⟨cN, cI, cS, cF⟩, ⟨dN, dI, dS, dF⟩, ⟨eN, eI, eS, eF⟩], Z.drop a)) := by rw [hW, ← g6]
    simp only [rkA, ha] at hW2
    obtain ⟨rb, hrb⟩ : ∃ rb, rb = krB ⟨aS, bS, cF, dN, eF⟩ := ⟨_, rfl⟩
    rw [← hrb] at cR hW2
    clear hB hR g6 hW hKat hrb
    first | (have FRx := FR; clear FRx) | have FR := fr0S
    have FA := Sm.mk (And.intro TFCoN k1)
    repeat' first | (apply Sm.mk; refine YsCoN1 ?_) | refine WP.seq fun K hK => ?_ | (apply Ob.mk; exact Yo) | refine And.intro (Ob.out ?_) ?_ | refine Y1CoN ?_ | refine Yc (c := cR) (r := ?_) | refine YzCoN ?_ | (refine WP.cond rfl (fun hc => ?_) (fun hc => ?_) <;> (try simp only [ZC, reduceCtorEq, ZD] at hc) <;> (try exact absurd hc (by decide)) <;> (try (exfalso; omega))) | refine Rt.mk (And.intro (fun hg => Sm.out ?_) fun hg => Sm.out ?_) | (refine Nu.mk ?_; first | (fail_if_success have := nb1); intro nb1 | (fail_if_success have := nb2); intro nb2 | (fail_if_success have := nb3); intro nb3 | (fail_if_success have := nb4); intro nb4 | (fail_if_success have := nb5); intro nb5 | (fail_if_success have := nb6); intro nb6 | (fail_if_success have := nb7); intro nb7 | (fail_if_success have := nb8); intro nb8 | intro nbz) | (apply Yfr; refine Yf FR fun hFRb FR => ?_) | refine Two.mk ?_ ?_ | (apply Yxc; exact Yx) | refine Cs.mk fun hcs => Sm.out ?_ | go_step | omega | (simp only [maxLen_eq]; omega) | exact trivial
    (have FA := Sm.mk (And.intro hW2 FA.out); refine Yg ?_; try exact trivial)
end Go.Proofs.YtfknbndmabogjaaDoor
