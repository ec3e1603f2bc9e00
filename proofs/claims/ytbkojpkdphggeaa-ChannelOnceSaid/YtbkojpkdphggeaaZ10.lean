/-
  The walks and the laws that the statement leans on, part 10.
-/
import Derived.Test.YtbkojpkdphggeaaZ9
namespace Go.Proofs.Ytbkojpkdphggeaa
open Go
set_option linter.unusedVariables false
set_option linter.unusedSimpArgs false
theorem liftE {ι : Type} {M : ι → Hp} {cap : ι → Prop} {f : FuncId} {args : List AV} {F R F1 H : Hp} {v : AV} (h : ACt Try.prog f args F (fun r F' => r = v ∧ F' = F1)) (hP : H.Perm (F ++ R)) (i : ι) (hQ : (F1 ++ R).Perm (M i)) (hc : cap i) :
    ACt Try.prog f args H (fun r F' => ∃ g : { i : ι // ((M i).map (·.1)).Nodup ∧ cap i }, r = v ∧ F' = M g.1) :=
  ACt.frm (R := R) h hP fun r F' hr hn => by
    obtain ⟨e1, e2⟩ := hr
    subst e1 e2
    exact ⟨M i, [], by rw [List.append_nil]; exact hQ, ⟨i, ((hQ.map _).nodup_iff.1 hn), hc⟩, rfl, rfl⟩
theorem liftX {ι : Type} {M : ι → Hp} {cap : ι → Prop} {f : FuncId} {args : List AV} {F R H : Hp} {F1 : Nat → Nat → Hp} {v : AV} {φ : Nat → Nat → Prop} (h : ACt Try.prog f args F (fun r F' => ∃ y k, φ y k ∧ r = v ∧ F' = F1 y k)) (hP : H.Perm (F ++ R)) (i : Nat → Nat → ι)
    (hQ : ∀ y k, (F1 y k ++ R).Perm (M (i y k))) (hc : ∀ y k, φ y k → cap (i y k)) :
    ACt Try.prog f args H (fun r F' => ∃ g : { i : ι // ((M i).map (·.1)).Nodup ∧ cap i }, r = v ∧ F' = M g.1) :=
  ACt.frm (R := R) h hP fun r F' hr hn => by
    obtain ⟨y, k, e0, e1, e2⟩ := hr
    subst e1 e2
    exact ⟨M (i y k), [], by rw [List.append_nil]; exact hQ y k, ⟨i y k, (((hQ y k).map _).nodup_iff.1 hn), hc y k e0⟩, rfl, rfl⟩
theorem liftX4 {ι : Type} {M : ι → Hp} {cap : ι → Prop} {f : FuncId} {args : List AV} {F R H : Hp} {F1 : Nat → Nat → Nat → Nat → Hp} {v : AV} {φ : Nat → Nat → Nat → Nat → Prop} (h : ACt Try.prog f args F (fun r F' => ∃ y k z j, φ y k z j ∧ r = v ∧ F' = F1 y k z j)) (hP : H.Perm (F ++ R)) (i : Nat → Nat → Nat → Nat → ι)
    (hQ : ∀ y k z j, (F1 y k z j ++ R).Perm (M (i y k z j))) (hc : ∀ y k z j, φ y k z j → cap (i y k z j)) :
    ACt Try.prog f args H (fun r F' => ∃ g : { i : ι // ((M i).map (·.1)).Nodup ∧ cap i }, r = v ∧ F' = M g.1) :=
  ACt.frm (R := R) h hP fun r F' hr hn => by
    obtain ⟨y, k, z, j, e0, e1, e2⟩ := hr
    subst e1 e2
    exact ⟨M (i y k z j), [], by rw [List.append_nil]; exact hQ y k z j, ⟨i y k z j, (((hQ y k z j).map _).nodup_iff.1 hn), hc y k z j e0⟩, rfl, rfl⟩
theorem liftS {f : FuncId} {args : List AV} {F R H : Hp} {v : AV} (h : ACt Try.prog f args F (fun r F' => r = v ∧ F' = F)) (hP : H.Perm (F ++ R)) : ACt Try.prog f args H (fun r F' => r = v ∧ F' = H) :=
  ACt.frm (R := R) h hP fun r F' hr _ => by
    obtain ⟨e1, e2⟩ := hr
    subst e1 e2
    exact ⟨H, [], by rw [List.append_nil]; exact hP.symm, rfl, rfl⟩
structure CA where
  l : List Pk
  h : List Ky
  n : Int
abbrev CI : Type := Option (Nat × Nat) × (Nat × Nat)
def fV (n : Nat) : Option (Nat × Nat) → AV
  | none => nsl
  | some q => ms q.1 0 n q.2
def fB (l : List Pk) : Option (Nat × Nat) → Hp
  | none => []
  | some q => [(q.1, .cells (fcs l) q.2 20)]
def hV (h : List Ky) (q : Nat × Nat) : AV := match h with
  | [] => nsl
  | k :: r => ms q.1 0 (k :: r).length q.2
def hB (h : List Ky) (q : Nat × Nat) : Hp := match h with
  | [] => []
  | k :: r => [(q.1, .cells (kcs (k :: r)) (q.2 * 5) 50)]
theorem hV_ne {h : List Ky} (q : Nat × Nat) (hh : h ≠ []) : hV h q = ms q.1 0 h.length q.2 := by cases h; exact absurd rfl hh; rfl
theorem hB_ne {h : List Ky} (q : Nat × Nat) (hh : h ≠ []) : hB h q = [(q.1, .cells (kcs h) (q.2 * 5) 50)] := by cases h; exact absurd rfl hh; rfl
def cH (c : Nat) (a : CA) (i : CI) : Hp := (c, chM (fV a.l.length i.1) (hV a.h i.2) (iv .u64 a.n)) :: (fB a.l i.1 ++ hB a.h i.2)
def capA (a : CA) (i : CI) : Prop := (i.1 = none → a.l = []) ∧ (∀ q, i.1 = some q → a.l.length ≤ q.2 ∧ q.2 ≤ 9223372036854775807) ∧ (a.h ≠ [] → a.h.length ≤ i.2.2 ∧ i.2.2 ≤ 9223372036854775807)
abbrev CS (c : Nat) (a : CA) : Type := { i : CI // ((cH c a i).map (·.1)).Nodup ∧ capA a i }
structure AOk (a : CA) : Prop where
  l : a.l.length ≤ 60
  m : ∀ p ∈ a.l, MR p.m
  h : a.h.length ≤ 50000
def kV (ks : List Ky) : AV := match ks with
  | [] => nsl
  | k :: r => .sl (k :: r).length (kcs (k :: r))
theorem kV_ne {h : List Ky} (hh : h ≠ []) : kV h = .sl h.length (kcs h) := by cases h; exact absurd rfl hh; rfl
/-! The steps -/
noncomputable def pst (a : CA) (m : Mg) : CA × Int := if mrB m = false then (a, 6) else if 60 ≤ a.l.length then (⟨a.l, a.h, IntKind.u64.wrap (a.n + 1)⟩, 11) else (⟨a.l ++ [⟨false, m⟩], a.h, a.n⟩, 0)
def lse (a : CA) (i : Int) : CA × Int := if 0 ≤ i ∧ i < (a.l.length : Int) then (⟨a.l.eraseIdx i.toNat, a.h, IntKind.u64.wrap (a.n + 1)⟩, 0) else (a, 7)
def dbl (a : CA) (i : Int) : CA × Int := if h : 0 ≤ i ∧ i < (a.l.length : Int) then (if 60 ≤ a.l.length then (a, 11) else (⟨a.l ++ [a.l[i.toNat]'(by omega)], a.h, a.n⟩, 0)) else (a, 7)
noncomputable def dlv (a : CA) (i : Int) : CA × (List Ky × Int) :=
  if h : 0 ≤ i ∧ i < (a.l.length : Int) then
    (if (a.l[i.toNat]'(by omega)).a = true then (⟨a.l.eraseIdx i.toNat, a.h, a.n⟩, ((a.l[i.toNat]'(by omega)).m.ks, 0))
     else (⟨a.l.eraseIdx i.toNat ++ [⟨true, (a.l[i.toNat]'(by omega)).m⟩], hrL a.h (a.l[i.toNat]'(by omega)).m.ks, a.n⟩, ([], 0)))
  else (a, ([], 7))
theorem nd_c {c x : Nat} {m m2 : MB} {l : Hp} (h : (((c, m) :: ([(x, m2)] ++ l) : Hp).map (·.1)).Nodup) : c ≠ x ∧ x ≠ c := by
  simp only [List.cons_append, List.nil_append, List.map_cons, List.nodup_cons, List.mem_cons, not_or] at h
  exact ⟨h.1.1, fun e => h.1.1 e.symm⟩
theorem nd_h {c x z : Nat} {m m2 m3 : MB} (h : (((c, m) :: ([(x, m2)] ++ [(z, m3)]) : Hp).map (·.1)).Nodup) : (c ≠ z ∧ z ≠ c) ∧ (x ≠ z ∧ z ≠ x) := by
  simp only [List.cons_append, List.nil_append, List.map_cons, List.map_nil, List.nodup_cons, List.mem_cons, List.not_mem_nil, or_false, not_or] at h
  exact ⟨⟨h.1.2, fun e => h.1.2 e.symm⟩, ⟨h.2.1, fun e => h.2.1 e.symm⟩⟩
theorem post_c (c : Nat) (a : CA) (ha : AOk a) (g : CS c a) (m : Mg) (hz : ∀ k ∈ m.ks, Kz k) : ACt Try.prog 21 [pt c 0, mv m] (cH c a g.1) (fun r F' => ∃ g' : CS c (pst a m).1, r = iv .i64 (pst a m).2 ∧ F' = cH c (pst a m).1 g'.1) := by
  obtain ⟨⟨fo, q⟩, hnd, hf0, hf1, hh1⟩ := g
  obtain ⟨l, h, n⟩ := a
  have hal := ha.l
  simp only at hf0 hf1 hh1 hal
  by_cases hm : mrB m = false
  · have e : pst ⟨l, h, n⟩ m = (⟨l, h, n⟩, 6) := by unfold pst; rw [if_pos hm]
    rw [e]
    exact liftE (M := cH c ⟨l, h, n⟩) (cap := capA ⟨l, h, n⟩) (R := fB l fo ++ hB h q) (post_form c _ _ _ m hz hm) (List.Perm.refl _) (fo, q) (List.Perm.refl _) ⟨hf0, hf1, hh1⟩
  have hmt : mrB m = true := by simpa using hm
  by_cases h60 : 60 ≤ l.length
  · have e : pst ⟨l, h, n⟩ m = (⟨l, h, IntKind.u64.wrap (n + 1)⟩, 11) := by unfold pst; rw [if_neg hm, if_pos h60]
    rw [e]
    cases fo with
    | none => have := hf0 rfl; rw [this] at h60; simp at h60
    | some x =>
      exact liftE (M := cH c ⟨l, h, IntKind.u64.wrap (n + 1)⟩) (cap := capA ⟨l, h, IntKind.u64.wrap (n + 1)⟩) (R := fB l (some x) ++ hB h q) (post_full c x.1 l.length x.2 (hV h q) n m hz hmt h60) (List.Perm.refl _) (some x, q) (List.Perm.refl _) ⟨hf0, hf1, hh1⟩
  · have e : pst ⟨l, h, n⟩ m = (⟨l ++ [(⟨false, m⟩ : Pk)], h, n⟩, 0) := by unfold pst; rw [if_neg hm, if_neg h60]
    rw [e]
    cases fo with
    | none =>
      have hl := hf0 rfl
      subst hl
      exact liftX (M := cH c ⟨[] ++ [(⟨false, m⟩ : Pk)], h, n⟩) (cap := capA ⟨[] ++ [(⟨false, m⟩ : Pk)], h, n⟩) (R := hB h q) (post_n c (hV h q) (iv .u64 n) m hz hmt) (List.Perm.refl _) (fun y k => (some (y, k), q)) (fun y k => List.Perm.swap _ _ _)
        (fun y k hk => ⟨fun h => by simp at h, fun q' hq' => by cases hq'; exact hk, hh1⟩)
    | some x =>
      obtain ⟨x, k⟩ := x
      have hk := hf1 _ rfl
      have hd := nd_c hnd
      exact liftX (M := cH c ⟨l ++ [(⟨false, m⟩ : Pk)], h, n⟩) (cap := capA ⟨l ++ [(⟨false, m⟩ : Pk)], h, n⟩) (R := hB h q) (post_s c x k l l.length hd (hV h q) (iv .u64 n) m hz hmt rfl hk (by omega)) (List.Perm.swap _ _ _) (fun y k => (some (y, k), q))
        (fun y k => by simp only [cH, fV, fB, List.length_append, List.length_cons, List.length_nil]; exact List.Perm.swap _ _ _)
        (fun y k hk => ⟨fun h => by simp at h, fun q' hq' => by cases hq'; simp only [List.length_append, List.length_cons, List.length_nil]; exact hk, hh1⟩)
theorem lose_c (c : Nat) (a : CA) (ha : AOk a) (g : CS c a) (i : Int) : ACt Try.prog 22 [pt c 0, iv .i64 i] (cH c a g.1) (fun r F' => ∃ g' : CS c (lse a i).1, r = iv .i64 (lse a i).2 ∧ F' = cH c (lse a i).1 g'.1) := by
  obtain ⟨⟨fo, q⟩, hnd, hf0, hf1, hh1⟩ := g
  obtain ⟨l, h, n⟩ := a
  have hal := ha.l
  simp only at hf0 hf1 hh1 hal
  by_cases hi : 0 ≤ i ∧ i < (l.length : Int)
  · cases fo with
    | none => have := hf0 rfl; rw [this] at hi; simp at hi; omega
    | some x =>
      obtain ⟨x, k⟩ := x
      have hk := hf1 _ rfl
      have hd := nd_c hnd
      obtain ⟨j, rfl⟩ := Int.eq_ofNat_of_zero_le hi.1
      have hj : j < l.length := by omega
      have e : lse ⟨l, h, n⟩ (j : Int) = (⟨l.eraseIdx j, h, IntKind.u64.wrap (n + 1)⟩, 0) := by unfold lse; rw [if_pos hi]; rfl
      rw [e]
      have e1 : l.length - 1 = (l.eraseIdx j).length := by rw [List.length_eraseIdx_of_lt hj]
      have cL := lose_s c x k l l.length j hd (hV h q) n rfl hj hk (by omega)
      rw [e1] at cL
      exact liftE (M := cH c ⟨l.eraseIdx j, h, IntKind.u64.wrap (n + 1)⟩) (cap := capA ⟨l.eraseIdx j, h, IntKind.u64.wrap (n + 1)⟩) (R := hB h q) cL (List.Perm.refl _) (some (x, k), q) (List.Perm.refl _)
        ⟨fun h => by simp at h, fun q' hq' => by cases hq'; simp only; rw [← e1]; exact ⟨by omega, hk.2⟩, hh1⟩
  · have e : lse ⟨l, h, n⟩ i = (⟨l, h, n⟩, 7) := by unfold lse; rw [if_neg hi]
    rw [e]
    cases fo with
    | none => exact liftE (M := cH c ⟨l, h, n⟩) (cap := capA ⟨l, h, n⟩) (R := fB l none ++ hB h q) (lose_n c (hV h q) (iv .u64 n) i) (List.Perm.refl _) (none, q) (List.Perm.refl _) ⟨hf0, hf1, hh1⟩
    | some x => exact liftE (M := cH c ⟨l, h, n⟩) (cap := capA ⟨l, h, n⟩) (R := fB l (some x) ++ hB h q) (lose_b c x.1 l.length x.2 (hV h q) (iv .u64 n) i (by unfold atI; rw [if_neg hi])) (List.Perm.refl _) (some x, q) (List.Perm.refl _) ⟨hf0, hf1, hh1⟩
theorem dbl_c (c : Nat) (a : CA) (ha : AOk a) (g : CS c a) (i : Int) : ACt Try.prog 23 [pt c 0, iv .i64 i] (cH c a g.1) (fun r F' => ∃ g' : CS c (dbl a i).1, r = iv .i64 (dbl a i).2 ∧ F' = cH c (dbl a i).1 g'.1) := by
  obtain ⟨⟨fo, q⟩, hnd, hf0, hf1, hh1⟩ := g
  obtain ⟨l, h, n⟩ := a
  have hal := ha.l
  simp only at hf0 hf1 hh1 hal
  by_cases hi : 0 ≤ i ∧ i < (l.length : Int)
  · cases fo with
    | none => have := hf0 rfl; rw [this] at hi; simp at hi; omega
    | some x =>
      obtain ⟨x, k⟩ := x
      have hk := hf1 _ rfl
      have hd := nd_c hnd
      by_cases h60 : 60 ≤ l.length
      · have e : dbl ⟨l, h, n⟩ i = (⟨l, h, n⟩, 11) := by unfold dbl; rw [dif_pos hi, if_pos h60]
        rw [e]
        exact liftE (M := cH c ⟨l, h, n⟩) (cap := capA ⟨l, h, n⟩) (R := fB l (some (x, k)) ++ hB h q) (dbl_f c x l.length k (hV h q) (iv .u64 n) i (by unfold atI; rw [if_pos hi]) h60) (List.Perm.refl _) (some (x, k), q) (List.Perm.refl _) ⟨hf0, hf1, hh1⟩
      · obtain ⟨j, rfl⟩ := Int.eq_ofNat_of_zero_le hi.1
        have hj : j < l.length := by omega
        have e : dbl ⟨l, h, n⟩ (j : Int) = (⟨l ++ [l[j]], h, n⟩, 0) := by unfold dbl; rw [dif_pos hi, if_neg h60]; rfl
        rw [e]
        exact liftX (M := cH c ⟨l ++ [l[j]], h, n⟩) (cap := capA ⟨l ++ [l[j]], h, n⟩) (R := hB h q) (dbl_s c x k l l.length j hd (hV h q) (iv .u64 n) rfl hj hk (by omega)) (List.Perm.swap _ _ _) (fun y k => (some (y, k), q))
          (fun y k => by simp only [cH, fV, fB, List.length_append, List.length_cons, List.length_nil]; exact List.Perm.swap _ _ _)
          (fun y k hk => ⟨fun h => by simp at h, fun q' hq' => by cases hq'; simp only [List.length_append, List.length_cons, List.length_nil]; exact hk, hh1⟩)
  · have e : dbl ⟨l, h, n⟩ i = (⟨l, h, n⟩, 7) := by unfold dbl; rw [dif_neg hi]
    rw [e]
    cases fo with
    | none => exact liftE (M := cH c ⟨l, h, n⟩) (cap := capA ⟨l, h, n⟩) (R := fB l none ++ hB h q) (dbl_n c (hV h q) (iv .u64 n) i) (List.Perm.refl _) (none, q) (List.Perm.refl _) ⟨hf0, hf1, hh1⟩
    | some x => exact liftE (M := cH c ⟨l, h, n⟩) (cap := capA ⟨l, h, n⟩) (R := fB l (some x) ++ hB h q) (dbl_b c x.1 l.length x.2 (hV h q) (iv .u64 n) i (by unfold atI; rw [if_neg hi])) (List.Perm.refl _) (some x, q) (List.Perm.refl _) ⟨hf0, hf1, hh1⟩
theorem pr_m {α : Type} (a b c : α) : List.Perm [a, b, c] (c :: ([a] ++ [b])) := by
  show List.Perm ([a, b] ++ [c]) ([c] ++ [a, b])
  exact List.perm_append_comm
theorem del_c (c : Nat) (a : CA) (ha : AOk a) (g : CS c a) (i : Int) : ACt Try.prog 20 [pt c 0, iv .i64 i] (cH c a g.1) (fun r F' => ∃ g' : CS c (dlv a i).1, r = .tup [kV (dlv a i).2.1, iv .i64 (dlv a i).2.2] ∧ F' = cH c (dlv a i).1 g'.1) := by
  obtain ⟨⟨fo, q⟩, hnd, hf0, hf1, hh1⟩ := g
  obtain ⟨l, h, n⟩ := a
  have hal := ha.l
  have ham := ha.m
  have hah := ha.h
  simp only at hf0 hf1 hh1 hal ham hah
  by_cases hi : 0 ≤ i ∧ i < (l.length : Int)
  · cases fo with
    | none => have := hf0 rfl; rw [this] at hi; simp at hi; omega
    | some x =>
      obtain ⟨x, k⟩ := x
      have hk := hf1 _ rfl
      have hd := nd_c hnd
      obtain ⟨j, rfl⟩ := Int.eq_ofNat_of_zero_le hi.1
      have hj : j < l.length := by omega
      have hmr := ham _ (List.getElem_mem hj)
      have hks : l[j].m.ks ≠ [] := fun e => by have := hmr.1; rw [e] at this; simp at this
      have e1 : l.length - 1 = (l.eraseIdx j).length := by rw [List.length_eraseIdx_of_lt hj]
      by_cases hra : l[j].a = true
      · have e : dlv ⟨l, h, n⟩ (j : Int) = (⟨l.eraseIdx j, h, n⟩, (l[j].m.ks, 0)) := by unfold dlv; rw [dif_pos hi]; exact if_pos hra
        rw [e]
        have hel : l[j] = ⟨true, l[j].m⟩ := by rw [← hra]
        have cL := del_r c x k l l.length j hd (hV h q) (iv .u64 n) rfl hj hk (by omega) l[j].m hel ⟨hmr.1, by have := hmr.2.1; omega⟩
        rw [e1, ← kV_ne hks] at cL
        exact liftE (M := cH c ⟨l.eraseIdx j, h, n⟩) (cap := capA ⟨l.eraseIdx j, h, n⟩) (R := hB h q) cL (List.Perm.refl _) (some (x, k), q) (List.Perm.refl _)
          ⟨fun h => by simp at h, fun q' hq' => by cases hq'; simp only; rw [← e1]; exact ⟨by omega, hk.2⟩, hh1⟩
      · have e : dlv ⟨l, h, n⟩ (j : Int) = (⟨l.eraseIdx j ++ [(⟨true, l[j].m⟩ : Pk)], hrL h l[j].m.ks, n⟩, ([], 0)) := by unfold dlv; rw [dif_pos hi]; exact if_neg hra
        rw [e]
        have hra' : l[j].a = false := by simpa using hra
        have hel : l[j] = ⟨false, l[j].m⟩ := by rw [← hra']
        have hRne := hrL_ne l[j].m.ks h (.inr hks)
        have e2 : l.length - 1 + 1 = (l.eraseIdx j ++ [(⟨true, l[j].m⟩ : Pk)]).length := by rw [List.length_append, ← e1]; rfl
        by_cases hh : h = []
        · subst hh
          have cL := del_l0 c x k l l.length j hd (iv .u64 n) rfl hj hk (by omega) l[j].m hel ⟨hmr.1, by have := hmr.2.1; omega⟩
          rw [e2] at cL
          exact liftX4 (M := cH c ⟨l.eraseIdx j ++ [(⟨true, l[j].m⟩ : Pk)], hrL [] l[j].m.ks, n⟩) (cap := capA ⟨l.eraseIdx j ++ [(⟨true, l[j].m⟩ : Pk)], hrL [] l[j].m.ks, n⟩) (R := []) cL (List.Perm.refl _) (fun y k1 z k2 => (some (y, k1), (z, k2)))
            (fun y k1 z k2 => by simp only [cH, fV, fB, hV_ne _ hRne, hB_ne _ hRne]; exact pr_m _ _ _)
            (fun y k1 z k2 hk => ⟨fun h => by simp at h, fun q' hq' => by cases hq'; exact hk.1, fun _ => hk.2⟩)
        · have hnd2 := hnd
          simp only [cH, fB] at hnd2
          rw [hB_ne _ hh] at hnd2
          have hdh := nd_h hnd2
          have cL := del_l1 c x k q.1 q.2 h l l.length j hd hdh hh (hh1 hh) hah (iv .u64 n) rfl hj hk (by omega) l[j].m hel ⟨hmr.1, by have := hmr.2.1; omega⟩
          rw [e2] at cL
          exact liftX4 (M := cH c ⟨l.eraseIdx j ++ [(⟨true, l[j].m⟩ : Pk)], hrL h l[j].m.ks, n⟩) (cap := capA ⟨l.eraseIdx j ++ [(⟨true, l[j].m⟩ : Pk)], hrL h l[j].m.ks, n⟩) (R := []) cL (by simp only [cH, fV, fB, hV_ne _ hh, hB_ne _ hh]; exact List.Perm.refl _) (fun y k1 z k2 => (some (y, k1), (z, k2)))
            (fun y k1 z k2 => by simp only [cH, fV, fB, hV_ne _ hRne, hB_ne _ hRne]; exact pr_m _ _ _)
            (fun y k1 z k2 hk => ⟨fun h => by simp at h, fun q' hq' => by cases hq'; exact hk.1, fun _ => hk.2⟩)
  · have e : dlv ⟨l, h, n⟩ i = (⟨l, h, n⟩, ([], 7)) := by unfold dlv; rw [dif_neg hi]
    rw [e]
    cases fo with
    | none => exact liftE (M := cH c ⟨l, h, n⟩) (cap := capA ⟨l, h, n⟩) (R := fB l none ++ hB h q) (del_n c (hV h q) (iv .u64 n) i) (List.Perm.refl _) (none, q) (List.Perm.refl _) ⟨hf0, hf1, hh1⟩
    | some x => exact liftE (M := cH c ⟨l, h, n⟩) (cap := capA ⟨l, h, n⟩) (R := fB l (some x) ++ hB h q) (del_b c x.1 l.length x.2 (hV h q) (iv .u64 n) i (by unfold atI; rw [if_neg hi])) (List.Perm.refl _) (some x, q) (List.Perm.refl _) ⟨hf0, hf1, hh1⟩
/-! The looks -/
theorem pr_n {α : Type} (a b : α) (l : List α) : List.Perm (a :: (l ++ [b])) ([b, a] ++ l) := by
  have h1 : List.Perm (a :: (l ++ [b])) (a :: ([b] ++ l)) := List.Perm.cons _ List.perm_append_comm
  exact h1.trans (List.Perm.swap _ _ _)
theorem lost_c (c : Nat) (a : CA) (i : CI) : ACt Try.prog 15 [pt c 0] (cH c a i) (fun r F' => r = iv .u64 a.n ∧ F' = cH c a i) := liftS (R := fB a.l i.1 ++ hB a.h i.2) (lost_ct c _ _ a.n) (List.Perm.refl _)
theorem flying_c (c : Nat) (a : CA) (ha : AOk a) (g : CS c a) : ACt Try.prog 17 [pt c 0] (cH c a g.1) (fun r F' => r = flR a.l ∧ F' = cH c a g.1) := by
  obtain ⟨⟨fo, q⟩, hnd, hf0, hf1, hh1⟩ := g
  obtain ⟨l, h, n⟩ := a
  have hal := ha.l
  have ham := ha.m
  simp only at hf0 hf1 hh1 hal ham
  cases fo with
  | none =>
    have hl := hf0 rfl
    subst hl
    exact liftS (R := hB h q) (flying_n c (hV h q) (iv .u64 n)) (List.Perm.refl _)
  | some x =>
    obtain ⟨x, k⟩ := x
    exact liftS (R := hB h q) (flying_s c x k l l.length (nd_c hnd) (hV h q) (iv .u64 n) rfl (hf1 _ rfl) (by omega) fun p hp => ⟨(ham p hp).1, by have := (ham p hp).2.1; omega⟩) (List.Perm.swap _ _ _)
theorem heard_c (c : Nat) (a : CA) (ha : AOk a) (g : CS c a) : ACt Try.prog 18 [pt c 0] (cH c a g.1) (fun r F' => r = kV a.h ∧ F' = cH c a g.1) := by
  obtain ⟨⟨fo, q⟩, hnd, hf0, hf1, hh1⟩ := g
  obtain ⟨l, h, n⟩ := a
  have hah := ha.h
  simp only at hf0 hf1 hh1 hah
  by_cases hh : h = []
  · subst hh
    exact liftS (R := fB l fo ++ []) (heard_n c (fV l.length fo) (iv .u64 n)) (List.Perm.refl _)
  · have hl1 : 1 ≤ h.length := by have := List.length_pos_iff.2 hh; omega
    have hd : c ≠ q.1 ∧ q.1 ≠ c := by
      simp only [cH, hB_ne _ hh, List.map_cons, List.map_append, List.map_nil, List.nodup_cons, List.mem_append, List.mem_cons, List.not_mem_nil, or_false, not_or] at hnd
      exact ⟨hnd.1.2, fun e => hnd.1.2 e.symm⟩
    rw [kV_ne hh]
    have cX := heard_s c q.1 q.2 h h.length hd (fV l.length fo) (iv .u64 n) rfl hl1 (hh1 hh) (by omega)
    refine liftS (R := fB l fo) cX ?_
    simp only [cH, hV_ne _ hh, hB_ne _ hh]
    exact pr_n _ _ _
/-! A call's step, and what stays -/
noncomputable def stA (a : CA) (x : Ac) : CA × (List Ky × Int) :=
  if x.kd = 1 then ((pst a x.m).1, ([], (pst a x.m).2)) else if x.kd = 2 then dlv a x.i else if x.kd = 3 then ((lse a x.i).1, ([], (lse a x.i).2)) else if x.kd = 4 then ((dbl a x.i).1, ([], (dbl a x.i).2)) else (a, ([], 0))
structure BOk (t : Nat) (a : CA) : Prop where
  l : a.l.length ≤ 60
  m : ∀ p ∈ a.l, MR p.m
  h : a.h.length ≤ 8 * t
theorem BOk.to {t : Nat} {a : CA} (h : BOk t a) (ht : t ≤ 1000) : AOk a := ⟨h.l, h.m, by have := h.h; omega⟩
theorem BOk.step {t : Nat} {a : CA} (h : BOk t a) (x : Ac) : BOk (t + 1) (stA a x).1 := by
  obtain ⟨h1, h2, h3⟩ := h
  have mer : ∀ (i : Nat) (p : Pk), p ∈ a.l.eraseIdx i → MR p.m := fun i p hp => h2 p (List.mem_of_mem_eraseIdx hp)
  have ler : ∀ i : Nat, (a.l.eraseIdx i).length ≤ a.l.length := fun i => by
    rw [List.length_eraseIdx]; split <;> omega
  have hsame : BOk (t + 1) a := ⟨h1, h2, by omega⟩
  unfold stA
  split
  · simp only
    unfold pst
    split
    · exact hsame
    · split
      · exact ⟨h1, h2, by simp only; omega⟩
      · rename_i hm h60
        refine ⟨by simp only [List.length_append, List.length_cons, List.length_nil]; omega, fun p hp => ?_, by simp only; omega⟩
        rcases List.mem_append.1 hp with hp | hp
        · exact h2 p hp
        · rw [List.mem_singleton.1 hp]; exact mrB_out (by simpa using hm)
  · split
    · unfold dlv
      split
      · rename_i hi
        split
        · exact ⟨Nat.le_trans (ler _) h1, mer _, by simp only; omega⟩
        · have hmr := h2 _ (List.getElem_mem (show x.i.toNat < a.l.length by omega))
          have hle := hrL_len (a.l[x.i.toNat]'(by omega)).m.ks a.h
          refine ⟨?_, fun p hp => ?_, by simp only; have := hmr.2.1; omega⟩
          · simp only [List.length_append, List.length_cons, List.length_nil]
            rw [List.length_eraseIdx_of_lt (by omega)]; omega
          · rcases List.mem_append.1 hp with hp | hp
            · exact mer _ p hp
            · rw [List.mem_singleton.1 hp]; exact hmr
      · exact hsame
    · split
      · simp only
        unfold lse
        split
        · exact ⟨Nat.le_trans (ler _) h1, mer _, by simp only; omega⟩
        · exact hsame
      · split
        · simp only
          unfold dbl
          split
          · rename_i hi
            split
            · exact hsame
            · refine ⟨by simp only [List.length_append, List.length_cons, List.length_nil]; omega, fun p hp => ?_, by simp only; omega⟩
              rcases List.mem_append.1 hp with hp | hp
              · exact h2 p hp
              · rw [List.mem_singleton.1 hp]; exact h2 _ (List.getElem_mem _)
          · exact hsame
        · exact hsame
set_option linter.defProp false
def TFCnN :=
  And.intro (And.intro (And.intro (And.intro (And.intro (And.intro tyc0 tyc3) (And.intro zmb3 (And.intro tyc4 zmb4))) (And.intro (And.intro tyc25 mth25_31) (And.intro mth25_35 (And.intro mth25_33 mth25_32)))) (And.intro (And.intro (And.intro con25 zmb25) (And.intro tyc28 (And.intro elt28 mkz28))) (And.intro (And.intro mkc28 apT28) (And.intro elk28 (And.intro zmb28 tyc29))))) (And.intro (And.intro (And.intro (And.intro elt29 mkz29) (And.intro mkc29 (And.intro apT29 elk29))) (And.intro (And.intro zmb29 tyc33) (And.intro zmb33 (And.intro tyc34 tyc37)))) (And.intro (And.intro (And.intro foff37_0 fpart37_0) (And.intro foff37_1 (And.intro fpart37_1 foff37_2))) (And.intro (And.intro fpart37_2 zmb37) (And.intro bldT37 (And.intro tyc39 foff39_0)))))) (And.intro (And.intro (And.intro (And.intro (And.intro fpart39_0 foff39_1) (And.intro fpart39_1 (And.intro foff39_2 fpart39_2))) (And.intro (And.intro zmb39 bldT39) (And.intro tyc50 (And.intro foff50_0 fpart50_0)))) (And.intro (And.intro (And.intro foff50_1 fpart50_1) (And.intro foff50_2 (And.intro fpart50_2 foff50_3))) (And.intro (And.intro fpart50_3 foff50_4) (And.intro fpart50_4 (And.intro fe50 zmb50))))) (And.intro (And.intro (And.intro (And.intro bldT50 tyc53) (And.intro foff53_0 (And.intro fpart53_0 foff53_1))) (And.intro (And.intro fpart53_1 zmb53) (And.intro bldT53 (And.intro Try.underlying0 Try.underlying3)))) (And.intro (And.intro (And.intro Try.underlying4 Try.underlying25) (And.intro Try.underlying28 (And.intro Try.underlying29 Try.underlying33))) (And.intro (And.intro Try.underlying34 Try.underlying37) (And.intro Try.underlying39 (And.intro Try.underlying50 Try.underlying53))))))
theorem ACt.frzV {P : Program} {f : FuncId} {args args' : List AV} {b : Nat} {m : MB} {F : Hp} {p : AV → Hp → Prop} (h : ACt P f args' F p) (hvw : VwL [(b, m)] args args') :
    ACt P f args ((b, m) :: F) p := by
  intro cx vs hK hw hs hv
  have hlen := hvw.length
  have hbl := keys_lt hw _ (List.mem_cons_self ..)
  have hnd := hw.nodup
  simp only [List.map_cons, List.nodup_cons] at hnd
  have himm : ∀ c, imm cx cx.w0 ((b, m) :: F) c → cx.I c := by
    rintro c (hc | ⟨h1, h2, h3⟩)
    · exact hc
    · rcases h1 with h1 | h1
      · rw [hK] at h1
        obtain ⟨x, hx, he⟩ := List.mem_map.1 h1
        exact absurd he (h3 x hx)
      · omega
  have hI : ∀ c, (cx.I c ∨ c = b) → c < cx.w0.heap.size ∧ c ∉ F.map (·.1) := by
    rintro c (hc | rfl)
    · refine ⟨(cx.hI c hc).1, fun hm => (cx.hI c hc).2 ?_⟩
      rw [hK]; exact List.mem_cons_of_mem _ hm
    · exact ⟨hbl, hnd.1⟩
  have hI2 : ∀ c, cx.I c → c < cx.w0.heap.size ∧ c ∉ [b] := fun c hc => ⟨(cx.hI c hc).1, fun hm => (cx.hI c hc).2 (by rw [hK, List.mem_singleton.1 hm]; exact List.mem_cons_self ..)⟩
  have hw2 : OkW ⟨cx.w0, cx.I, [b], hI2⟩ [(b, m)] cx.w0 := ⟨by simp, fun x hx => .inl (by rw [List.mem_singleton.1 hx]; simp), fun x hx => by
    rw [List.mem_singleton.1 hx]
    exact (hw.mem _ (List.mem_cons_self ..)).mono (fun c hc => ⟨.inl (himm c hc), rfl⟩) rfl, ⟨rfl, rfl, rfl, Nat.le_refl _, fun _ _ _ => rfl⟩⟩
  have himm2 : ∀ c, imm ⟨cx.w0, cx.I, [b], hI2⟩ cx.w0 [(b, m)] c → cx.I c := by
    rintro c (hc | ⟨h1, h2, h3⟩)
    · exact hc
    · have := h3 (b, m) (List.mem_cons_self ..)
      rcases h1 with h1 | h1
      · simp at h1; exact absurd h1.symm this
      · simp only at h1 h2; omega
  have := h ⟨cx.w0, fun c => cx.I c ∨ c = b, F.map (·.1), hI⟩ vs rfl
    ⟨hnd.2, fun x hx => .inl (List.mem_map_of_mem hx), fun x hx => (hw.mem x (List.mem_cons_of_mem _ hx)).mono (fun c hc => ⟨.inl (.inl (himm c hc)), rfl⟩) rfl, ⟨rfl, rfl, rfl, Nat.le_refl _, fun _ _ _ => rfl⟩⟩
    (by omega) (fun i hi => by
      have hi' : i < args.length := by omega
      exact (hvw.get i hi').rep hw2 (fun c hc => .inl (himm2 c hc)) (fun x hx => by simp at hx; subst hx; exact .inr rfl) ((hv i hi').mono fun c hc => ⟨.inl hc, rfl⟩))
  refine this.mono ?_
  rintro e w' ⟨v, r, F', he, hp, hw', hr⟩
  have e1 := hw.ext
  have e2 := hw'.ext
  have hsz : cx.w0.heap.size ≤ w'.heap.size := e2.size
  have hkey : ∀ x ∈ F', x.1 ∈ cx.K ∨ cx.w0.heap.size ≤ x.1 := fun x hx => by
    rcases hw'.keys x hx with h | h
    · exact .inl (by rw [hK]; exact List.mem_cons_of_mem _ h)
    · exact .inr h
  have hbF : ∀ x ∈ F', x.1 ≠ b := fun x hx he => by
    rcases hw'.keys x hx with h | h
    · exact hnd.1 (he ▸ h)
    · simp only at h; omega
  have hIm : ∀ c, imm ⟨cx.w0, fun c => cx.I c ∨ c = b, F.map (·.1), hI⟩ w' F' c → imm cx w' F' c := by
    rintro c ((hc | rfl) | ⟨h1, h2, h3⟩)
    · exact .inl hc
    · exact .inr ⟨.inl (by rw [hK]; exact List.mem_cons_self ..), by omega, hbF⟩
    · refine .inr ⟨?_, h2, h3⟩
      rcases h1 with h1 | h1
      · exact .inl (by rw [hK]; exact List.mem_cons_of_mem _ h1)
      · exact .inr h1
  refine ⟨v, r, F', he, hp, ⟨hw'.nodup, hkey, fun x hx => (hw'.mem x hx).mono (fun c hc => ⟨hIm c hc, rfl⟩) rfl, ?_⟩, hr.mono fun c hc => ⟨hIm c hc, rfl⟩⟩
  exact ⟨e2.os.trans e1.os, e2.tape.trans e1.tape, e2.output.trans e1.output, Nat.le_trans e1.size e2.size, fun c hc hk => (e2.blk c hc (fun hm => hk (by rw [hK]; exact List.mem_cons_of_mem _ hm))).trans (e1.blk c hc hk)⟩
theorem pr_o {α : Type} (a : α) (l : List α) : List.Perm (a :: l) (l ++ [a]) := by
  show List.Perm ([a] ++ l) (l ++ [a])
  exact List.perm_append_comm
abbrev av (x : Ac) : AV := .agg [iv .i64 x.kd, iv .i64 x.i, .lit (.string x.m.g), bv x.m.p, .sl x.m.ks.length (kcs x.m.ks)]
theorem kV0 : kV [] = nsl := rfl
set_option maxHeartbeats 2000000 in
theorem does_ct (c : Nat) (a : CA) (ha : AOk a) (g : CS c a) (x : Ac) (hz : ∀ k ∈ x.m.ks, Kz k) : ACt Try.prog 9 [pt c 0, av x] (cH c a g.1) (fun r F' => ∃ g' : CS c (stA a x).1, r = .tup [kV (stA a x).2.1, iv .i64 (stA a x).2.2] ∧ F' = cH c (stA a x).1 g'.1) := by
  have c1 := post_c c a ha g x.m hz
  have c2 := del_c c a ha g x.i
  have c3 := lose_c c a ha g x.i
  have c4 := dbl_c c a ha g x.i
  obtain ⟨S, hS⟩ : ∃ S, S = stA a x := ⟨_, rfl⟩
  rw [← hS]
  unfold stA at hS
  obtain ⟨kd, i, m⟩ := x
  simp only at c1 c2 c3 c4 hS hz ⊢
  unfold mv at c1
  unfold av
  simp only
  obtain ⟨n, hn⟩ : ∃ n, n = m.ks.length := ⟨_, rfl⟩
  obtain ⟨K1, hK1⟩ : ∃ C, C = kcs m.ks := ⟨_, rfl⟩
  rw [← hn, ← hK1] at c1 ⊢
  by_cases h1 : kd = 1
  · subst h1
    rw [if_pos rfl] at hS
    obtain ⟨P, hP⟩ : ∃ P, P = pst a m := ⟨_, rfl⟩
    rw [← hP] at c1 hS
    subst hS
    clear hP hK1
    obtain ⟨G, hG⟩ : ∃ G, G = cH c a g.1 := ⟨_, rfl⟩
    rw [← hG] at c1 ⊢
    obtain ⟨mg, mp, mks⟩ := m
    refine ACt.intro Try.func9 rfl (by kernel_rfl) (by simp [Try.ntmps9]) (fun cx => ?_)
    simp only [argE, Try.ntmps9, Try.results9]
    first | (have FRx := FR; clear FRx) | have FR := fr0S
    repeat' first | (refine Sm.mk ?_; try simp -dsimp only [ZK, rvc, drawF, headN, pureH, stp, dvc, calleeOf, gcall, pev, eff, newB, okd, og, ogs, ogo, ogp, slv, bltv, opd, litv, strip, one, both, putE, St.put, look, gdOf, gdv, picka, pickv, pickw, binv, bini, bins, binb, binp, binq, isSlT, bina, shp, eqCells, unv, convv, nilv, faddv, addp, idxav, idxp, load1, load1m, loadn, loadnm, loadv, hget, hset, hrep, hdel, slicev, slice3v, bnd, shift1, lenv, capv, IntKind.bits, extractv, fieldv, indexv, min2v, max2v, mkiv, tasv, tasz, cellsA, fillA, buildv, stC, oneC, rowMB, intsA, plN, appE, appZ, appC, appS, srcB, appNZ, appNC, VwL, srcC, srcZ, srcM, isBoolT, isPtrT, isSliceT, uOk, Value.oneCell', Nat.reducePow, Int.reducePow, Nat.reduceAdd, Nat.reduceMul, Nat.reduceSub, Nat.reduceLT, Nat.reduceLeDiff, Nat.reduceEqDiff, Nat.reduceBEq, Nat.reduceDiv, Nat.reduceMod, ↓reduceIte, reduceCtorEq, Int.reduceToNat, Int.reduceLT, Int.reduceLE, TFCnN, SeqQ, BlkQ, LoopQ, BodyQ, FR.out]) | (refine CallV.exM (c1) (pr_o _ _) (fun h => Sm.out ?_)) | refine WP.seq fun K hK => ?_ | refine WP.region (rvc_sound _ _ (Sm.out ?_)) | refine WP.drawK rfl mixed (by decide +kernel) (Sm.out ?_) | (refine Ob.mk ?_; focus (first | assumption | omega | decide | trivial | (intro hob; simp only [hob, ZF]; done) | (intros; (repeat' refine And.intro ?_ ?_) <;> first | assumption | omega | trivial | decide) | (intros; simp only [ZE] at *; (repeat' refine And.intro ?_ ?_) <;> first | assumption | omega | trivial))) | refine And.intro (Ob.out ?_) ?_ | refine WP.block ?_ | (refine WP.cond rfl (fun hc => ?_) (fun hc => ?_) <;> (try simp only [ZC, reduceCtorEq, ZD] at hc) <;> (try exact absurd hc (by decide)) <;> (try (exfalso; omega))) | ((first | refine WP.skip ?_ | refine WP.exit ?_); simp only [SeqQ, BlkQ, LoopQ, BodyQ, ↓reduceIte, Nat.reduceEqDiff, reduceCtorEq, look, true_and]) | refine WP.ret (Sm.out ?_) | (first | refine ExG.no (Sm.out ?_) | refine Or.inl (ExG.no (Sm.out ?_)) | refine Or.inl (And.intro (fun hg => absurd hg (by decide)) (ExG.no (Sm.out ?_)))) | (refine Rt.mk ?_; refine And.intro ?_ ?_ <;> (intro hg; first | exact absurd hg (by decide) | refine Sm.out ?_)) | (refine Nu.mk ?_; first | (fail_if_success have := nb1); intro nb1 | (fail_if_success have := nb2); intro nb2 | (fail_if_success have := nb3); intro nb3 | (fail_if_success have := nb4); intro nb4 | (fail_if_success have := nb5); intro nb5 | (fail_if_success have := nb6); intro nb6 | (fail_if_success have := nb7); intro nb7 | (fail_if_success have := nb8); intro nb8 | intro nbz) | (refine Fr.mk ?_; intro hfr; (first | (have hFRb : _ ≤ _ ∧ _ ≤ _ := And.intro hfr.1 hfr.2.1) | (have hFRb : _ ≤ _ := hfr.1) | skip); replace FR := Sm.mk (And.intro hfr FR.out); clear hfr; refine Sm.out ?_) | refine Two.mk ?_ ?_ | (refine Cs.mk ?_; intro hcs; first | exact False.elim hcs | (exfalso; omega) | (refine Sm.out ?_)) | go_step | omega | (simp only [maxLen_eq]; omega)
    (refine OutQ.drop _ _ ((List.Perm.refl _)) (by simp only [resv, ZK, look, loadv, loadn, loadnm, load1, load1m, hget, ↓reduceIte, Nat.reduceEqDiff, Nat.reduceAdd, Nat.reduceMul, Nat.reduceLeDiff, Nat.reduceLT, reduceCtorEq, TFCnN, FR.out, kV0]) ⟨h, (by simp only [resv, resA, ZK, look, loadv, loadn, loadnm, load1, load1m, hget, ↓reduceIte, Nat.reduceEqDiff, Nat.reduceAdd, Nat.reduceMul, Nat.reduceLeDiff, Nat.reduceLT, reduceCtorEq, TFCnN, FR.out, kV0]; first | done | rfl), rfl⟩)
  have k1 : (kd == 1) = false := beq_eq_false_iff_ne.2 h1
  rw [if_neg h1] at hS
  by_cases h2 : kd = 2
  · subst h2
    rw [if_pos rfl] at hS
    rw [← hS] at c2
    clear hS hK1
    obtain ⟨G, hG⟩ : ∃ G, G = cH c a g.1 := ⟨_, rfl⟩
    rw [← hG] at c2 ⊢
    obtain ⟨W, hW⟩ : ∃ W, W = kV S.2.1 := ⟨_, rfl⟩
    have hWl : (∃ v, W = .lit v) ∨ ∃ n cs, W = .sl n cs := by
      rw [hW]
      cases S.2.1 with
      | nil => exact .inl ⟨_, rfl⟩
      | cons k r => exact .inr ⟨_, _, rfl⟩
    rw [← hW] at c2 ⊢
    clear hW
    obtain ⟨mg, mp, mks⟩ := m
    rcases hWl with ⟨v, rfl⟩ | ⟨nn, cs, rfl⟩
    all_goals
      refine ACt.intro Try.func9 rfl (by kernel_rfl) (by simp [Try.ntmps9]) (fun cx => ?_)
      simp only [argE, Try.ntmps9, Try.results9]
    all_goals (
        first | (have FRx := FR; clear FRx) | have FR := fr0S
        repeat' first | (refine Sm.mk ?_; try simp -dsimp only [ZK, rvc, drawF, headN, pureH, stp, dvc, calleeOf, gcall, pev, eff, newB, okd, og, ogs, ogo, ogp, slv, bltv, opd, litv, strip, one, both, putE, St.put, look, gdOf, gdv, picka, pickv, pickw, binv, bini, bins, binb, binp, binq, isSlT, bina, shp, eqCells, unv, convv, nilv, faddv, addp, idxav, idxp, load1, load1m, loadn, loadnm, loadv, hget, hset, hrep, hdel, slicev, slice3v, bnd, shift1, lenv, capv, IntKind.bits, extractv, fieldv, indexv, min2v, max2v, mkiv, tasv, tasz, cellsA, fillA, buildv, stC, oneC, rowMB, intsA, plN, appE, appZ, appC, appS, srcB, appNZ, appNC, VwL, srcC, srcZ, srcM, isBoolT, isPtrT, isSliceT, uOk, Value.oneCell', Nat.reducePow, Int.reducePow, Nat.reduceAdd, Nat.reduceMul, Nat.reduceSub, Nat.reduceLT, Nat.reduceLeDiff, Nat.reduceEqDiff, Nat.reduceBEq, Nat.reduceDiv, Nat.reduceMod, ↓reduceIte, reduceCtorEq, Int.reduceToNat, Int.reduceLT, Int.reduceLE, TFCnN, SeqQ, BlkQ, LoopQ, BodyQ, k1, FR.out]) | (refine CallV.exM (c2) (pr_o _ _) (fun h => Sm.out ?_)) | refine WP.seq fun K hK => ?_ | refine WP.region (rvc_sound _ _ (Sm.out ?_)) | refine WP.drawK rfl mixed (by decide +kernel) (Sm.out ?_) | (refine Ob.mk ?_; focus (first | assumption | omega | decide | trivial | (intro hob; simp only [hob, ZF]; done) | (intros; (repeat' refine And.intro ?_ ?_) <;> first | assumption | omega | trivial | decide) | (intros; simp only [ZE] at *; (repeat' refine And.intro ?_ ?_) <;> first | assumption | omega | trivial))) | refine And.intro (Ob.out ?_) ?_ | refine WP.block ?_ | (refine WP.cond rfl (fun hc => ?_) (fun hc => ?_) <;> (try simp only [ZC, reduceCtorEq, ZD] at hc) <;> (try exact absurd hc (by decide)) <;> (try (exfalso; omega))) | ((first | refine WP.skip ?_ | refine WP.exit ?_); simp only [SeqQ, BlkQ, LoopQ, BodyQ, ↓reduceIte, Nat.reduceEqDiff, reduceCtorEq, look, true_and]) | refine WP.ret (Sm.out ?_) | (first | refine ExG.no (Sm.out ?_) | refine Or.inl (ExG.no (Sm.out ?_)) | refine Or.inl (And.intro (fun hg => absurd hg (by decide)) (ExG.no (Sm.out ?_)))) | (refine Rt.mk ?_; refine And.intro ?_ ?_ <;> (intro hg; first | exact absurd hg (by decide) | refine Sm.out ?_)) | (refine Nu.mk ?_; first | (fail_if_success have := nb1); intro nb1 | (fail_if_success have := nb2); intro nb2 | (fail_if_success have := nb3); intro nb3 | (fail_if_success have := nb4); intro nb4 | (fail_if_success have := nb5); intro nb5 | (fail_if_success have := nb6); intro nb6 | (fail_if_success have := nb7); intro nb7 | (fail_if_success have := nb8); intro nb8 | intro nbz) | (refine Fr.mk ?_; intro hfr; (first | (have hFRb : _ ≤ _ ∧ _ ≤ _ := And.intro hfr.1 hfr.2.1) | (have hFRb : _ ≤ _ := hfr.1) | skip); replace FR := Sm.mk (And.intro hfr FR.out); clear hfr; refine Sm.out ?_) | refine Two.mk ?_ ?_ | (refine Cs.mk ?_; intro hcs; first | exact False.elim hcs | (exfalso; omega) | (refine Sm.out ?_)) | go_step | omega | (simp only [maxLen_eq]; omega))
    all_goals (refine OutQ.drop _ _ ((List.Perm.refl _)) (by simp only [resv, ZK, look, loadv, loadn, loadnm, load1, load1m, hget, ↓reduceIte, Nat.reduceEqDiff, Nat.reduceAdd, Nat.reduceMul, Nat.reduceLeDiff, Nat.reduceLT, reduceCtorEq, TFCnN, FR.out]) ⟨h, (by simp only [resv, resA, ZK, look, loadv, loadn, loadnm, load1, load1m, hget, ↓reduceIte, Nat.reduceEqDiff, Nat.reduceAdd, Nat.reduceMul, Nat.reduceLeDiff, Nat.reduceLT, reduceCtorEq, TFCnN, FR.out]; first | done | rfl), rfl⟩)
  have k2 : (kd == 2) = false := beq_eq_false_iff_ne.2 h2
  rw [if_neg h2] at hS
  by_cases h3 : kd = 3
  · subst h3
    rw [if_pos rfl] at hS
    obtain ⟨P, hP⟩ : ∃ P, P = lse a i := ⟨_, rfl⟩
    rw [← hP] at c3 hS
    subst hS
    clear hP hK1
    obtain ⟨G, hG⟩ : ∃ G, G = cH c a g.1 := ⟨_, rfl⟩
    rw [← hG] at c3 ⊢
    obtain ⟨mg, mp, mks⟩ := m
    refine ACt.intro Try.func9 rfl (by kernel_rfl) (by simp [Try.ntmps9]) (fun cx => ?_)
    simp only [argE, Try.ntmps9, Try.results9]
    first | (have FRx := FR; clear FRx) | have FR := fr0S
    repeat' first | (refine Sm.mk ?_; try simp -dsimp only [ZK, rvc, drawF, headN, pureH, stp, dvc, calleeOf, gcall, pev, eff, newB, okd, og, ogs, ogo, ogp, slv, bltv, opd, litv, strip, one, both, putE, St.put, look, gdOf, gdv, picka, pickv, pickw, binv, bini, bins, binb, binp, binq, isSlT, bina, shp, eqCells, unv, convv, nilv, faddv, addp, idxav, idxp, load1, load1m, loadn, loadnm, loadv, hget, hset, hrep, hdel, slicev, slice3v, bnd, shift1, lenv, capv, IntKind.bits, extractv, fieldv, indexv, min2v, max2v, mkiv, tasv, tasz, cellsA, fillA, buildv, stC, oneC, rowMB, intsA, plN, appE, appZ, appC, appS, srcB, appNZ, appNC, VwL, srcC, srcZ, srcM, isBoolT, isPtrT, isSliceT, uOk, Value.oneCell', Nat.reducePow, Int.reducePow, Nat.reduceAdd, Nat.reduceMul, Nat.reduceSub, Nat.reduceLT, Nat.reduceLeDiff, Nat.reduceEqDiff, Nat.reduceBEq, Nat.reduceDiv, Nat.reduceMod, ↓reduceIte, reduceCtorEq, Int.reduceToNat, Int.reduceLT, Int.reduceLE, TFCnN, SeqQ, BlkQ, LoopQ, BodyQ, k1, k2, FR.out]) | (refine CallV.exM (c3) (pr_o _ _) (fun h => Sm.out ?_)) | refine WP.seq fun K hK => ?_ | refine WP.region (rvc_sound _ _ (Sm.out ?_)) | refine WP.drawK rfl mixed (by decide +kernel) (Sm.out ?_) | (refine Ob.mk ?_; focus (first | assumption | omega | decide | trivial | (intro hob; simp only [hob, ZF]; done) | (intros; (repeat' refine And.intro ?_ ?_) <;> first | assumption | omega | trivial | decide) | (intros; simp only [ZE] at *; (repeat' refine And.intro ?_ ?_) <;> first | assumption | omega | trivial))) | refine And.intro (Ob.out ?_) ?_ | refine WP.block ?_ | (refine WP.cond rfl (fun hc => ?_) (fun hc => ?_) <;> (try simp only [ZC, reduceCtorEq, ZD] at hc) <;> (try exact absurd hc (by decide)) <;> (try (exfalso; omega))) | ((first | refine WP.skip ?_ | refine WP.exit ?_); simp only [SeqQ, BlkQ, LoopQ, BodyQ, ↓reduceIte, Nat.reduceEqDiff, reduceCtorEq, look, true_and]) | refine WP.ret (Sm.out ?_) | (first | refine ExG.no (Sm.out ?_) | refine Or.inl (ExG.no (Sm.out ?_)) | refine Or.inl (And.intro (fun hg => absurd hg (by decide)) (ExG.no (Sm.out ?_)))) | (refine Rt.mk ?_; refine And.intro ?_ ?_ <;> (intro hg; first | exact absurd hg (by decide) | refine Sm.out ?_)) | (refine Nu.mk ?_; first | (fail_if_success have := nb1); intro nb1 | (fail_if_success have := nb2); intro nb2 | (fail_if_success have := nb3); intro nb3 | (fail_if_success have := nb4); intro nb4 | (fail_if_success have := nb5); intro nb5 | (fail_if_success have := nb6); intro nb6 | (fail_if_success have := nb7); intro nb7 | (fail_if_success have := nb8); intro nb8 | intro nbz) | (refine Fr.mk ?_; intro hfr; (first | (have hFRb : _ ≤ _ ∧ _ ≤ _ := And.intro hfr.1 hfr.2.1) | (have hFRb : _ ≤ _ := hfr.1) | skip); replace FR := Sm.mk (And.intro hfr FR.out); clear hfr; refine Sm.out ?_) | refine Two.mk ?_ ?_ | (refine Cs.mk ?_; intro hcs; first | exact False.elim hcs | (exfalso; omega) | (refine Sm.out ?_)) | go_step | omega | (simp only [maxLen_eq]; omega)
    (refine OutQ.drop _ _ ((List.Perm.refl _)) (by simp only [resv, ZK, look, loadv, loadn, loadnm, load1, load1m, hget, ↓reduceIte, Nat.reduceEqDiff, Nat.reduceAdd, Nat.reduceMul, Nat.reduceLeDiff, Nat.reduceLT, reduceCtorEq, TFCnN, FR.out, kV0]) ⟨h, (by simp only [resv, resA, ZK, look, loadv, loadn, loadnm, load1, load1m, hget, ↓reduceIte, Nat.reduceEqDiff, Nat.reduceAdd, Nat.reduceMul, Nat.reduceLeDiff, Nat.reduceLT, reduceCtorEq, TFCnN, FR.out, kV0]; first | done | rfl), rfl⟩)
  have k3 : (kd == 3) = false := beq_eq_false_iff_ne.2 h3
  rw [if_neg h3] at hS
  by_cases h4 : kd = 4
  · subst h4
    rw [if_pos rfl] at hS
    obtain ⟨P, hP⟩ : ∃ P, P = dbl a i := ⟨_, rfl⟩
    rw [← hP] at c4 hS
    subst hS
    clear hP hK1
    obtain ⟨G, hG⟩ : ∃ G, G = cH c a g.1 := ⟨_, rfl⟩
    rw [← hG] at c4 ⊢
    obtain ⟨mg, mp, mks⟩ := m
    refine ACt.intro Try.func9 rfl (by kernel_rfl) (by simp [Try.ntmps9]) (fun cx => ?_)
    simp only [argE, Try.ntmps9, Try.results9]
    first | (have FRx := FR; clear FRx) | have FR := fr0S
    repeat' first | (refine Sm.mk ?_; try simp -dsimp only [ZK, rvc, drawF, headN, pureH, stp, dvc, calleeOf, gcall, pev, eff, newB, okd, og, ogs, ogo, ogp, slv, bltv, opd, litv, strip, one, both, putE, St.put, look, gdOf, gdv, picka, pickv, pickw, binv, bini, bins, binb, binp, binq, isSlT, bina, shp, eqCells, unv, convv, nilv, faddv, addp, idxav, idxp, load1, load1m, loadn, loadnm, loadv, hget, hset, hrep, hdel, slicev, slice3v, bnd, shift1, lenv, capv, IntKind.bits, extractv, fieldv, indexv, min2v, max2v, mkiv, tasv, tasz, cellsA, fillA, buildv, stC, oneC, rowMB, intsA, plN, appE, appZ, appC, appS, srcB, appNZ, appNC, VwL, srcC, srcZ, srcM, isBoolT, isPtrT, isSliceT, uOk, Value.oneCell', Nat.reducePow, Int.reducePow, Nat.reduceAdd, Nat.reduceMul, Nat.reduceSub, Nat.reduceLT, Nat.reduceLeDiff, Nat.reduceEqDiff, Nat.reduceBEq, Nat.reduceDiv, Nat.reduceMod, ↓reduceIte, reduceCtorEq, Int.reduceToNat, Int.reduceLT, Int.reduceLE, TFCnN, SeqQ, BlkQ, LoopQ, BodyQ, k1, k2, k3, FR.out]) | (refine CallV.exM (c4) (pr_o _ _) (fun h => Sm.out ?_)) | refine WP.seq fun K hK => ?_ | refine WP.region (rvc_sound _ _ (Sm.out ?_)) | refine WP.drawK rfl mixed (by decide +kernel) (Sm.out ?_) | (refine Ob.mk ?_; focus (first | assumption | omega | decide | trivial | (intro hob; simp only [hob, ZF]; done) | (intros; (repeat' refine And.intro ?_ ?_) <;> first | assumption | omega | trivial | decide) | (intros; simp only [ZE] at *; (repeat' refine And.intro ?_ ?_) <;> first | assumption | omega | trivial))) | refine And.intro (Ob.out ?_) ?_ | refine WP.block ?_ | (refine WP.cond rfl (fun hc => ?_) (fun hc => ?_) <;> (try simp only [ZC, reduceCtorEq, ZD] at hc) <;> (try exact absurd hc (by decide)) <;> (try (exfalso; omega))) | ((first | refine WP.skip ?_ | refine WP.exit ?_); simp only [SeqQ, BlkQ, LoopQ, BodyQ, ↓reduceIte, Nat.reduceEqDiff, reduceCtorEq, look, true_and]) | refine WP.ret (Sm.out ?_) | (first | refine ExG.no (Sm.out ?_) | refine Or.inl (ExG.no (Sm.out ?_)) | refine Or.inl (And.intro (fun hg => absurd hg (by decide)) (ExG.no (Sm.out ?_)))) | (refine Rt.mk ?_; refine And.intro ?_ ?_ <;> (intro hg; first | exact absurd hg (by decide) | refine Sm.out ?_)) | (refine Nu.mk ?_; first | (fail_if_success have := nb1); intro nb1 | (fail_if_success have := nb2); intro nb2 | (fail_if_success have := nb3); intro nb3 | (fail_if_success have := nb4); intro nb4 | (fail_if_success have := nb5); intro nb5 | (fail_if_success have := nb6); intro nb6 | (fail_if_success have := nb7); intro nb7 | (fail_if_success have := nb8); intro nb8 | intro nbz) | (refine Fr.mk ?_; intro hfr; (first | (have hFRb : _ ≤ _ ∧ _ ≤ _ := And.intro hfr.1 hfr.2.1) | (have hFRb : _ ≤ _ := hfr.1) | skip); replace FR := Sm.mk (And.intro hfr FR.out); clear hfr; refine Sm.out ?_) | refine Two.mk ?_ ?_ | (refine Cs.mk ?_; intro hcs; first | exact False.elim hcs | (exfalso; omega) | (refine Sm.out ?_)) | go_step | omega | (simp only [maxLen_eq]; omega)
    (refine OutQ.drop _ _ ((List.Perm.refl _)) (by simp only [resv, ZK, look, loadv, loadn, loadnm, load1, load1m, hget, ↓reduceIte, Nat.reduceEqDiff, Nat.reduceAdd, Nat.reduceMul, Nat.reduceLeDiff, Nat.reduceLT, reduceCtorEq, TFCnN, FR.out, kV0]) ⟨h, (by simp only [resv, resA, ZK, look, loadv, loadn, loadnm, load1, load1m, hget, ↓reduceIte, Nat.reduceEqDiff, Nat.reduceAdd, Nat.reduceMul, Nat.reduceLeDiff, Nat.reduceLT, reduceCtorEq, TFCnN, FR.out, kV0]; first | done | rfl), rfl⟩)
  have k4 : (kd == 4) = false := beq_eq_false_iff_ne.2 h4
  rw [if_neg h4] at hS
  subst hS
  clear hK1
  simp only at c1 c2 c3 c4 ⊢
  obtain ⟨mg, mp, mks⟩ := m
  refine ACt.intro Try.func9 rfl (by kernel_rfl) (by simp [Try.ntmps9]) (fun cx => ?_)
  simp only [argE, Try.ntmps9, Try.results9]
  first | (have FRx := FR; clear FRx) | have FR := fr0S
  repeat' first | (refine Sm.mk ?_; try simp -dsimp only [ZK, rvc, drawF, headN, pureH, stp, dvc, calleeOf, gcall, pev, eff, newB, okd, og, ogs, ogo, ogp, slv, bltv, opd, litv, strip, one, both, putE, St.put, look, gdOf, gdv, picka, pickv, pickw, binv, bini, bins, binb, binp, binq, isSlT, bina, shp, eqCells, unv, convv, nilv, faddv, addp, idxav, idxp, load1, load1m, loadn, loadnm, loadv, hget, hset, hrep, hdel, slicev, slice3v, bnd, shift1, lenv, capv, IntKind.bits, extractv, fieldv, indexv, min2v, max2v, mkiv, tasv, tasz, cellsA, fillA, buildv, stC, oneC, rowMB, intsA, plN, appE, appZ, appC, appS, srcB, appNZ, appNC, VwL, srcC, srcZ, srcM, isBoolT, isPtrT, isSliceT, uOk, Value.oneCell', Nat.reducePow, Int.reducePow, Nat.reduceAdd, Nat.reduceMul, Nat.reduceSub, Nat.reduceLT, Nat.reduceLeDiff, Nat.reduceEqDiff, Nat.reduceBEq, Nat.reduceDiv, Nat.reduceMod, ↓reduceIte, reduceCtorEq, Int.reduceToNat, Int.reduceLT, Int.reduceLE, TFCnN, SeqQ, BlkQ, LoopQ, BodyQ, k1, k2, k3, k4, FR.out]) | refine WP.seq fun K hK => ?_ | refine WP.region (rvc_sound _ _ (Sm.out ?_)) | refine WP.drawK rfl mixed (by decide +kernel) (Sm.out ?_) | (refine Ob.mk ?_; focus (first | assumption | omega | decide | trivial | (intro hob; simp only [hob, ZF]; done) | (intros; (repeat' refine And.intro ?_ ?_) <;> first | assumption | omega | trivial | decide) | (intros; simp only [ZE] at *; (repeat' refine And.intro ?_ ?_) <;> first | assumption | omega | trivial))) | refine And.intro (Ob.out ?_) ?_ | refine WP.block ?_ | (refine WP.cond rfl (fun hc => ?_) (fun hc => ?_) <;> (try simp only [ZC, reduceCtorEq, ZD] at hc) <;> (try exact absurd hc (by decide)) <;> (try (exfalso; omega))) | ((first | refine WP.skip ?_ | refine WP.exit ?_); simp only [SeqQ, BlkQ, LoopQ, BodyQ, ↓reduceIte, Nat.reduceEqDiff, reduceCtorEq, look, true_and]) | refine WP.ret (Sm.out ?_) | (first | refine ExG.no (Sm.out ?_) | refine Or.inl (ExG.no (Sm.out ?_)) | refine Or.inl (And.intro (fun hg => absurd hg (by decide)) (ExG.no (Sm.out ?_)))) | (refine Rt.mk ?_; refine And.intro ?_ ?_ <;> (intro hg; first | exact absurd hg (by decide) | refine Sm.out ?_)) | (refine Nu.mk ?_; first | (fail_if_success have := nb1); intro nb1 | (fail_if_success have := nb2); intro nb2 | (fail_if_success have := nb3); intro nb3 | (fail_if_success have := nb4); intro nb4 | (fail_if_success have := nb5); intro nb5 | (fail_if_success have := nb6); intro nb6 | (fail_if_success have := nb7); intro nb7 | (fail_if_success have := nb8); intro nb8 | intro nbz) | (refine Fr.mk ?_; intro hfr; (first | (have hFRb : _ ≤ _ ∧ _ ≤ _ := And.intro hfr.1 hfr.2.1) | (have hFRb : _ ≤ _ := hfr.1) | skip); replace FR := Sm.mk (And.intro hfr FR.out); clear hfr; refine Sm.out ?_) | refine Two.mk ?_ ?_ | (refine Cs.mk ?_; intro hcs; first | exact False.elim hcs | (exfalso; omega) | (refine Sm.out ?_)) | go_step | omega | (simp only [maxLen_eq]; omega)
  (refine OutQ.drop _ _ ((pr_o _ _)) (by simp only [resv, ZK, look, loadv, loadn, loadnm, load1, load1m, hget, ↓reduceIte, Nat.reduceEqDiff, Nat.reduceAdd, Nat.reduceMul, Nat.reduceLeDiff, Nat.reduceLT, reduceCtorEq, TFCnN, FR.out, kV0]) ⟨g, (by simp only [resv, resA, ZK, look, loadv, loadn, loadnm, load1, load1m, hget, ↓reduceIte, Nat.reduceEqDiff, Nat.reduceAdd, Nat.reduceMul, Nat.reduceLeDiff, Nat.reduceLT, reduceCtorEq, TFCnN, FR.out, kV0]; first | done | rfl), rfl⟩)
def TFCnO :=
  And.intro (And.intro (And.intro (And.intro (And.intro (And.intro tyc0 tyc3) (And.intro zmb3 tyc4)) (And.intro (And.intro zmb4 tyc25) (And.intro mth25_31 mth25_35))) (And.intro (And.intro (And.intro mth25_33 mth25_32) (And.intro con25 zmb25)) (And.intro (And.intro tyc28 elt28) (And.intro mkz28 (And.intro mkc28 apT28))))) (And.intro (And.intro (And.intro (And.intro elk28 zmb28) (And.intro tyc29 elt29)) (And.intro (And.intro mkz29 mkc29) (And.intro apT29 (And.intro elk29 zmb29)))) (And.intro (And.intro (And.intro tyc33 zmb33) (And.intro tyc34 tyc37)) (And.intro (And.intro foff37_0 fpart37_0) (And.intro foff37_1 (And.intro fpart37_1 foff37_2)))))) (And.intro (And.intro (And.intro (And.intro (And.intro fpart37_2 zmb37) (And.intro bldT37 tyc50)) (And.intro (And.intro foff50_0 fpart50_0) (And.intro foff50_1 fpart50_1))) (And.intro (And.intro (And.intro foff50_2 fpart50_2) (And.intro foff50_3 fpart50_3)) (And.intro (And.intro foff50_4 fpart50_4) (And.intro fe50 (And.intro zmb50 bldT50))))) (And.intro (And.intro (And.intro (And.intro tyc53 foff53_0) (And.intro fpart53_0 foff53_1)) (And.intro (And.intro fpart53_1 zmb53) (And.intro bldT53 (And.intro Try.underlying0 Try.underlying3)))) (And.intro (And.intro (And.intro Try.underlying4 Try.underlying25) (And.intro Try.underlying28 Try.underlying29)) (And.intro (And.intro Try.underlying33 Try.underlying34) (And.intro Try.underlying37 (And.intro Try.underlying50 Try.underlying53))))))
theorem rn_one {x : Int} (h : x < 128) : rn [x] = [x] := by
  show rnF [x] 1 0 = [x]
  rw [rnF_succ, if_pos (by simp)]
  have e : elR [x] 0 = (x, 1) := by unfold elR; rw [if_pos (show [x].getD 0 0 < 128 from h)]; rfl
  rw [e]; rfl
theorem nmB_one {x : Int} (h : letB x = true) : nmB [x] = true := nmB_true ⟨by simp, by simp, h, fun i hi => by
  obtain rfl : i = 0 := by simpa using hi
  exact .inl h⟩
abbrev sA : ByteArray := ⟨#[97]⟩
abbrev sR : ByteArray := ⟨#[114]⟩
theorem nm_a : nmS sA = true := by
  unfold nmS
  rw [show ub sA.data.toList = [97] from rfl, rn_one (by decide)]
  exact nmB_one (by decide)
theorem nm_r : nmS sR = true := by
  unfold nmS
  rw [show ub sR.data.toList = [114] from rfl, rn_one (by decide)]
  exact nmB_one (by decide)
abbrev k0 : Ky := ⟨sA, sR, false, 1, false⟩
abbrev m0 : Mg := ⟨sA, false, [k0]⟩
theorem kr0 : krB k0 = true := by unfold krB; rw [nm_a, nm_r]; rfl
theorem mr0 : MR m0 := ⟨by simp, by simp, fun i hi => by
  obtain rfl : i = 0 := by simpa using hi
  exact ⟨kr0, rfl, rfl, by simp⟩⟩
theorem hz0 : ∀ k ∈ m0.ks, Kz k := fun k hk => by
  rw [List.mem_singleton.1 hk]
  exact ⟨by decide, by decide⟩
abbrev A0 : CA := ⟨[], [], 0⟩
abbrev A1 : CA := ⟨[⟨false, m0⟩], [], 0⟩
abbrev A2 : CA := ⟨[⟨false, m0⟩, ⟨false, m0⟩], [], 0⟩
abbrev A3 : CA := ⟨[⟨false, m0⟩, ⟨true, m0⟩], [k0], 0⟩
abbrev A4 : CA := ⟨[⟨true, m0⟩, ⟨true, m0⟩], [k0], 0⟩
theorem hr0 : hrL [] [k0] = [k0] := by
  rw [hrL_cons, hrL_nil]; unfold addH; rw [hasB_f (by simp)]; rfl
theorem hr1 : hrL [k0] [k0] = [k0] := by
  rw [hrL_cons, hrL_nil]; unfold addH; rw [hasB_t (by simp)]; rfl
theorem st1 : pst A0 m0 = (A1, 0) := by unfold pst; rw [mrB_t mr0, if_neg (by decide), if_neg (by simp)]; rfl
theorem st2 : dbl A1 0 = (A2, 0) := by unfold dbl; rw [dif_pos (by simp), if_neg (by simp)]; rfl
theorem st3 : dlv A2 0 = (A3, ([], 0)) := by
  unfold dlv
  rw [dif_pos (by simp)]
  show (if false = true then _ else (_ : CA × (List Ky × Int))) = _
  rw [if_neg (by decide)]
  show ((⟨_, hrL [] [k0], _⟩ : CA), _) = _
  rw [hr0]; rfl
theorem st4 : dlv A3 0 = (A4, ([], 0)) := by
  unfold dlv
  rw [dif_pos (by simp)]
  show (if false = true then _ else (_ : CA × (List Ky × Int))) = _
  rw [if_neg (by decide)]
  show ((⟨_, hrL [k0] [k0], _⟩ : CA), _) = _
  rw [hr1]; rfl
theorem okA {a : CA} (h1 : a.l.length ≤ 60) (h2 : ∀ p ∈ a.l, p.m = m0) (h3 : a.h.length ≤ 50000) : AOk a := ⟨h1, fun p hp => by rw [h2 p hp]; exact mr0, h3⟩
def g0 (c : Nat) : CS c A0 := ⟨(none, (0, 0)), by simp [cH, fB, hB], ⟨fun _ => rfl, fun q hq => (by cases hq), fun h => absurd rfl h⟩⟩
theorem cH0 (c : Nat) : cH c A0 (g0 c).1 = [(c, chM nsl nsl (iv .u64 0))] := rfl
theorem post0 (c b : Nat) : ACt Try.prog 21 [pt c 0, .agg [.lit (.string sA), bv false, ms b 0 1 1]] [(b, kb k0), (c, chM nsl nsl (iv .u64 0))] (fun r F' => ∃ g : CS c A1, r = iv .i64 0 ∧ F' = cH c A1 g.1) := by
  have h := post_c c A0 (okA (by simp) (by simp) (by simp)) (g0 c) m0 hz0
  rw [st1, cH0] at h
  refine ACt.frzV h ⟨.same _, ?_, trivial⟩
  refine .agg rfl fun i hi => ?_
  have hi : i < 3 := hi
  rcases (by omega : i = 0 ∨ i = 1 ∨ i = 2) with rfl | rfl | rfl
  · exact .same _
  · exact .same _
  · exact vw_row (by omega) (by rw [maxLen_eq]; omega)
set_option maxHeartbeats 2000000 in
theorem awake_ct : ACt Try.prog 6 [] [] (Fn (bv true)) := by
  have cN := new_ct
  have cP := post0
  have zA : (⟨#[97]⟩ : ByteArray) = sA := rfl
  refine ACt.intro Try.func6 rfl (by kernel_rfl) (by simp [Try.ntmps6]) (fun cx => ?_)
  simp only [argE, Try.ntmps6, Try.results6]
  first | (have FRx := FR; clear FRx) | have FR := fr0S
  repeat' first | (refine Sm.mk ?_; try simp -dsimp only [ZK, rvc, drawF, headN, pureH, stp, dvc, calleeOf, gcall, pev, eff, newB, okd, og, ogs, ogo, ogp, slv, bltv, opd, litv, strip, one, both, putE, St.put, look, gdOf, gdv, picka, pickv, pickw, binv, bini, bins, binb, binp, binq, isSlT, bina, shp, eqCells, unv, convv, nilv, faddv, addp, idxav, idxp, load1, load1m, loadn, loadnm, loadv, hget, hset, hrep, hdel, slicev, slice3v, bnd, shift1, lenv, capv, IntKind.bits, extractv, fieldv, indexv, min2v, max2v, mkiv, tasv, tasz, cellsA, fillA, buildv, stC, oneC, rowMB, intsA, plN, appE, appZ, appC, appS, srcB, appNZ, appNC, VwL, srcC, srcZ, srcM, isBoolT, isPtrT, isSliceT, uOk, Value.oneCell', Nat.reducePow, Int.reducePow, Nat.reduceAdd, Nat.reduceMul, Nat.reduceSub, Nat.reduceLT, Nat.reduceLeDiff, Nat.reduceEqDiff, Nat.reduceBEq, Nat.reduceDiv, Nat.reduceMod, ↓reduceIte, reduceCtorEq, Int.reduceToNat, Int.reduceLT, Int.reduceLE, TFCnO, SeqQ, BlkQ, LoopQ, BodyQ, List.append_nil, FR.out]) | refine CallV.new1 (F := []) (List.Perm.refl _) (cN) rfl (Sm.out ?_) | (refine CallV.exM (cP _ _) (pmz _) (fun g1 => Sm.out ?_)) | refine WP.seq fun K hK => ?_ | ((fail_if_success (show WP _ _ _ (.region 3 _ _) _ _)); refine WP.region (rvc_sound _ _ (Sm.out ?_))) | ((fail_if_success (show WP _ _ _ (.region 3 _ _) _ _)); refine WP.drawK rfl mixed (by decide +kernel) (Sm.out ?_)) | (refine Ob.mk ?_; focus (first | assumption | omega | decide | trivial | (intro hob; simp only [hob, ZF]; done) | (intros; (repeat' refine And.intro ?_ ?_) <;> first | assumption | omega | trivial | decide) | (intros; simp only [ZE] at *; (repeat' refine And.intro ?_ ?_) <;> first | assumption | omega | trivial))) | refine And.intro (Ob.out ?_) ?_ | refine WP.block ?_ | (refine WP.cond rfl (fun hc => ?_) (fun hc => ?_) <;> (try simp only [ZC, reduceCtorEq, ZD] at hc) <;> (try exact absurd hc (by decide)) <;> (try (exfalso; omega))) | ((first | refine WP.skip ?_ | refine WP.exit ?_); simp only [SeqQ, BlkQ, LoopQ, BodyQ, ↓reduceIte, Nat.reduceEqDiff, reduceCtorEq, look, true_and]) | refine WP.ret (Sm.out ?_) | (first | refine ExG.no (Sm.out ?_) | refine Or.inl (ExG.no (Sm.out ?_)) | refine Or.inl (And.intro (fun hg => absurd hg (by decide)) (ExG.no (Sm.out ?_)))) | (refine Rt.mk ?_; refine And.intro ?_ ?_ <;> (intro hg; first | exact absurd hg (by decide) | refine Sm.out ?_)) | (refine Nu.mk ?_; first | (fail_if_success have := nb1); intro nb1 | (fail_if_success have := nb2); intro nb2 | (fail_if_success have := nb3); intro nb3 | (fail_if_success have := nb4); intro nb4 | (fail_if_success have := nb5); intro nb5 | (fail_if_success have := nb6); intro nb6 | (fail_if_success have := nb7); intro nb7 | (fail_if_success have := nb8); intro nb8 | intro nbz) | (refine Fr.mk ?_; intro hfr; (first | (have hFRb : _ ≤ _ ∧ _ ≤ _ := And.intro hfr.1 hfr.2.1) | (have hFRb : _ ≤ _ := hfr.1) | skip); replace FR := Sm.mk (And.intro hfr FR.out); clear hfr; refine Sm.out ?_) | refine Two.mk ?_ ?_ | (refine Cs.mk ?_; intro hcs; first | exact False.elim hcs | (exfalso; omega) | (refine Sm.out ?_)) | go_step | omega | (simp only [maxLen_eq]; omega)
  have c2 := dbl_c nb1 A1 (okA (by simp) (by simp) (by simp)) g1 0
  rw [st2] at c2
  simp only at c2
  first | (have FRx := FR; clear FRx) | have FR := fr0S
  repeat' first | (refine Sm.mk ?_; try simp -dsimp only [ZK, rvc, drawF, headN, pureH, stp, dvc, calleeOf, gcall, pev, eff, newB, okd, og, ogs, ogo, ogp, slv, bltv, opd, litv, strip, one, both, putE, St.put, look, gdOf, gdv, picka, pickv, pickw, binv, bini, bins, binb, binp, binq, isSlT, bina, shp, eqCells, unv, convv, nilv, faddv, addp, idxav, idxp, load1, load1m, loadn, loadnm, loadv, hget, hset, hrep, hdel, slicev, slice3v, bnd, shift1, lenv, capv, IntKind.bits, extractv, fieldv, indexv, min2v, max2v, mkiv, tasv, tasz, cellsA, fillA, buildv, stC, oneC, rowMB, intsA, plN, appE, appZ, appC, appS, srcB, appNZ, appNC, VwL, srcC, srcZ, srcM, isBoolT, isPtrT, isSliceT, uOk, Value.oneCell', Nat.reducePow, Int.reducePow, Nat.reduceAdd, Nat.reduceMul, Nat.reduceSub, Nat.reduceLT, Nat.reduceLeDiff, Nat.reduceEqDiff, Nat.reduceBEq, Nat.reduceDiv, Nat.reduceMod, ↓reduceIte, reduceCtorEq, Int.reduceToNat, Int.reduceLT, Int.reduceLE, TFCnO, SeqQ, BlkQ, LoopQ, BodyQ, List.append_nil, FR.out]) | (refine CallV.exM (c2) (pmz _) (fun g2 => Sm.out ?_)) | refine WP.seq fun K hK => ?_ | ((fail_if_success (show WP _ _ _ (.region 4 _ _) _ _)); refine WP.region (rvc_sound _ _ (Sm.out ?_))) | ((fail_if_success (show WP _ _ _ (.region 4 _ _) _ _)); refine WP.drawK rfl mixed (by decide +kernel) (Sm.out ?_)) | (refine Ob.mk ?_; focus (first | assumption | omega | decide | trivial | (intro hob; simp only [hob, ZF]; done) | (intros; (repeat' refine And.intro ?_ ?_) <;> first | assumption | omega | trivial | decide) | (intros; simp only [ZE] at *; (repeat' refine And.intro ?_ ?_) <;> first | assumption | omega | trivial))) | refine And.intro (Ob.out ?_) ?_ | refine WP.block ?_ | (refine WP.cond rfl (fun hc => ?_) (fun hc => ?_) <;> (try simp only [ZC, reduceCtorEq, ZD] at hc) <;> (try exact absurd hc (by decide)) <;> (try (exfalso; omega))) | ((first | refine WP.skip ?_ | refine WP.exit ?_); simp only [SeqQ, BlkQ, LoopQ, BodyQ, ↓reduceIte, Nat.reduceEqDiff, reduceCtorEq, look, true_and]) | refine WP.ret (Sm.out ?_) | (first | refine ExG.no (Sm.out ?_) | refine Or.inl (ExG.no (Sm.out ?_)) | refine Or.inl (And.intro (fun hg => absurd hg (by decide)) (ExG.no (Sm.out ?_)))) | (refine Rt.mk ?_; refine And.intro ?_ ?_ <;> (intro hg; first | exact absurd hg (by decide) | refine Sm.out ?_)) | (refine Nu.mk ?_; first | (fail_if_success have := nb1); intro nb1 | (fail_if_success have := nb2); intro nb2 | (fail_if_success have := nb3); intro nb3 | (fail_if_success have := nb4); intro nb4 | (fail_if_success have := nb5); intro nb5 | (fail_if_success have := nb6); intro nb6 | (fail_if_success have := nb7); intro nb7 | (fail_if_success have := nb8); intro nb8 | intro nbz) | (refine Fr.mk ?_; intro hfr; (first | (have hFRb : _ ≤ _ ∧ _ ≤ _ := And.intro hfr.1 hfr.2.1) | (have hFRb : _ ≤ _ := hfr.1) | skip); replace FR := Sm.mk (And.intro hfr FR.out); clear hfr; refine Sm.out ?_) | refine Two.mk ?_ ?_ | (refine Cs.mk ?_; intro hcs; first | exact False.elim hcs | (exfalso; omega) | (refine Sm.out ?_)) | go_step | omega | (simp only [maxLen_eq]; omega)
  have c3 := del_c nb1 A2 (okA (by simp) (by simp) (by simp)) g2 0
  rw [st3] at c3
  simp only [kV0] at c3
  first | (have FRx := FR; clear FRx) | have FR := fr0S
  repeat' first | (refine Sm.mk ?_; try simp -dsimp only [ZK, rvc, drawF, headN, pureH, stp, dvc, calleeOf, gcall, pev, eff, newB, okd, og, ogs, ogo, ogp, slv, bltv, opd, litv, strip, one, both, putE, St.put, look, gdOf, gdv, picka, pickv, pickw, binv, bini, bins, binb, binp, binq, isSlT, bina, shp, eqCells, unv, convv, nilv, faddv, addp, idxav, idxp, load1, load1m, loadn, loadnm, loadv, hget, hset, hrep, hdel, slicev, slice3v, bnd, shift1, lenv, capv, IntKind.bits, extractv, fieldv, indexv, min2v, max2v, mkiv, tasv, tasz, cellsA, fillA, buildv, stC, oneC, rowMB, intsA, plN, appE, appZ, appC, appS, srcB, appNZ, appNC, VwL, srcC, srcZ, srcM, isBoolT, isPtrT, isSliceT, uOk, Value.oneCell', Nat.reducePow, Int.reducePow, Nat.reduceAdd, Nat.reduceMul, Nat.reduceSub, Nat.reduceLT, Nat.reduceLeDiff, Nat.reduceEqDiff, Nat.reduceBEq, Nat.reduceDiv, Nat.reduceMod, ↓reduceIte, reduceCtorEq, Int.reduceToNat, Int.reduceLT, Int.reduceLE, TFCnO, SeqQ, BlkQ, LoopQ, BodyQ, List.append_nil, FR.out]) | (refine CallV.exM (c3) (pmz _) (fun g3 => Sm.out ?_)) | refine WP.seq fun K hK => ?_ | ((fail_if_success (show WP _ _ _ (.region 5 _ _) _ _)); refine WP.region (rvc_sound _ _ (Sm.out ?_))) | ((fail_if_success (show WP _ _ _ (.region 5 _ _) _ _)); refine WP.drawK rfl mixed (by decide +kernel) (Sm.out ?_)) | (refine Ob.mk ?_; focus (first | assumption | omega | decide | trivial | (intro hob; simp only [hob, ZF]; done) | (intros; (repeat' refine And.intro ?_ ?_) <;> first | assumption | omega | trivial | decide) | (intros; simp only [ZE] at *; (repeat' refine And.intro ?_ ?_) <;> first | assumption | omega | trivial))) | refine And.intro (Ob.out ?_) ?_ | refine WP.block ?_ | (refine WP.cond rfl (fun hc => ?_) (fun hc => ?_) <;> (try simp only [ZC, reduceCtorEq, ZD] at hc) <;> (try exact absurd hc (by decide)) <;> (try (exfalso; omega))) | ((first | refine WP.skip ?_ | refine WP.exit ?_); simp only [SeqQ, BlkQ, LoopQ, BodyQ, ↓reduceIte, Nat.reduceEqDiff, reduceCtorEq, look, true_and]) | refine WP.ret (Sm.out ?_) | (first | refine ExG.no (Sm.out ?_) | refine Or.inl (ExG.no (Sm.out ?_)) | refine Or.inl (And.intro (fun hg => absurd hg (by decide)) (ExG.no (Sm.out ?_)))) | (refine Rt.mk ?_; refine And.intro ?_ ?_ <;> (intro hg; first | exact absurd hg (by decide) | refine Sm.out ?_)) | (refine Nu.mk ?_; first | (fail_if_success have := nb1); intro nb1 | (fail_if_success have := nb2); intro nb2 | (fail_if_success have := nb3); intro nb3 | (fail_if_success have := nb4); intro nb4 | (fail_if_success have := nb5); intro nb5 | (fail_if_success have := nb6); intro nb6 | (fail_if_success have := nb7); intro nb7 | (fail_if_success have := nb8); intro nb8 | intro nbz) | (refine Fr.mk ?_; intro hfr; (first | (have hFRb : _ ≤ _ ∧ _ ≤ _ := And.intro hfr.1 hfr.2.1) | (have hFRb : _ ≤ _ := hfr.1) | skip); replace FR := Sm.mk (And.intro hfr FR.out); clear hfr; refine Sm.out ?_) | refine Two.mk ?_ ?_ | (refine Cs.mk ?_; intro hcs; first | exact False.elim hcs | (exfalso; omega) | (refine Sm.out ?_)) | go_step | omega | (simp only [maxLen_eq]; omega)
  have c4 := del_c nb1 A3 (okA (by simp) (by simp) (by simp)) g3 0
  rw [st4] at c4
  simp only [kV0] at c4
  first | (have FRx := FR; clear FRx) | have FR := fr0S
  repeat' first | (refine Sm.mk ?_; try simp -dsimp only [ZK, rvc, drawF, headN, pureH, stp, dvc, calleeOf, gcall, pev, eff, newB, okd, og, ogs, ogo, ogp, slv, bltv, opd, litv, strip, one, both, putE, St.put, look, gdOf, gdv, picka, pickv, pickw, binv, bini, bins, binb, binp, binq, isSlT, bina, shp, eqCells, unv, convv, nilv, faddv, addp, idxav, idxp, load1, load1m, loadn, loadnm, loadv, hget, hset, hrep, hdel, slicev, slice3v, bnd, shift1, lenv, capv, IntKind.bits, extractv, fieldv, indexv, min2v, max2v, mkiv, tasv, tasz, cellsA, fillA, buildv, stC, oneC, rowMB, intsA, plN, appE, appZ, appC, appS, srcB, appNZ, appNC, VwL, srcC, srcZ, srcM, isBoolT, isPtrT, isSliceT, uOk, Value.oneCell', Nat.reducePow, Int.reducePow, Nat.reduceAdd, Nat.reduceMul, Nat.reduceSub, Nat.reduceLT, Nat.reduceLeDiff, Nat.reduceEqDiff, Nat.reduceBEq, Nat.reduceDiv, Nat.reduceMod, ↓reduceIte, reduceCtorEq, Int.reduceToNat, Int.reduceLT, Int.reduceLE, TFCnO, SeqQ, BlkQ, LoopQ, BodyQ, List.append_nil, FR.out]) | (refine CallV.exM (c4) (pmz _) (fun g4 => Sm.out ?_)) | refine WP.seq fun K hK => ?_ | ((fail_if_success (show WP _ _ _ (.region 6 _ _) _ _)); refine WP.region (rvc_sound _ _ (Sm.out ?_))) | ((fail_if_success (show WP _ _ _ (.region 6 _ _) _ _)); refine WP.drawK rfl mixed (by decide +kernel) (Sm.out ?_)) | (refine Ob.mk ?_; focus (first | assumption | omega | decide | trivial | (intro hob; simp only [hob, ZF]; done) | (intros; (repeat' refine And.intro ?_ ?_) <;> first | assumption | omega | trivial | decide) | (intros; simp only [ZE] at *; (repeat' refine And.intro ?_ ?_) <;> first | assumption | omega | trivial))) | refine And.intro (Ob.out ?_) ?_ | refine WP.block ?_ | (refine WP.cond rfl (fun hc => ?_) (fun hc => ?_) <;> (try simp only [ZC, reduceCtorEq, ZD] at hc) <;> (try exact absurd hc (by decide)) <;> (try (exfalso; omega))) | ((first | refine WP.skip ?_ | refine WP.exit ?_); simp only [SeqQ, BlkQ, LoopQ, BodyQ, ↓reduceIte, Nat.reduceEqDiff, reduceCtorEq, look, true_and]) | refine WP.ret (Sm.out ?_) | (first | refine ExG.no (Sm.out ?_) | refine Or.inl (ExG.no (Sm.out ?_)) | refine Or.inl (And.intro (fun hg => absurd hg (by decide)) (ExG.no (Sm.out ?_)))) | (refine Rt.mk ?_; refine And.intro ?_ ?_ <;> (intro hg; first | exact absurd hg (by decide) | refine Sm.out ?_)) | (refine Nu.mk ?_; first | (fail_if_success have := nb1); intro nb1 | (fail_if_success have := nb2); intro nb2 | (fail_if_success have := nb3); intro nb3 | (fail_if_success have := nb4); intro nb4 | (fail_if_success have := nb5); intro nb5 | (fail_if_success have := nb6); intro nb6 | (fail_if_success have := nb7); intro nb7 | (fail_if_success have := nb8); intro nb8 | intro nbz) | (refine Fr.mk ?_; intro hfr; (first | (have hFRb : _ ≤ _ ∧ _ ≤ _ := And.intro hfr.1 hfr.2.1) | (have hFRb : _ ≤ _ := hfr.1) | skip); replace FR := Sm.mk (And.intro hfr FR.out); clear hfr; refine Sm.out ?_) | refine Two.mk ?_ ?_ | (refine Cs.mk ?_; intro hcs; first | exact False.elim hcs | (exfalso; omega) | (refine Sm.out ?_)) | go_step | omega | (simp only [maxLen_eq]; omega)
  have c5 := flying_c nb1 A4 (okA (by simp) (by simp) (by simp)) g4
  have c6 := heard_c nb1 A4 (okA (by simp) (by simp) (by simp)) g4
  have e5 : flR A4.l = .sl 2 [bv true, .lit (.string sA), bv false, .sl 1 (kcs [k0]), bv true, .lit (.string sA), bv false, .sl 1 (kcs [k0])] := rfl
  have e6 : kV A4.h = .sl 1 (kcs [k0]) := rfl
  rw [e5] at c5
  rw [e6] at c6
  obtain ⟨K1, hK1⟩ : ∃ K, K = kcs [k0] := ⟨_, rfl⟩
  rw [← hK1] at c5 c6
  obtain ⟨G, hG⟩ : ∃ G, G = cH nb1 A4 g4.1 := ⟨_, rfl⟩
  rw [← hG] at c5 c6
  simp only [← hG]
  first | (have FRx := FR; clear FRx) | have FR := fr0S
  repeat' first | (refine Sm.mk ?_; try simp -dsimp only [ZK, rvc, drawF, headN, pureH, stp, dvc, calleeOf, gcall, pev, eff, newB, okd, og, ogs, ogo, ogp, slv, bltv, opd, litv, strip, one, both, putE, St.put, look, gdOf, gdv, picka, pickv, pickw, binv, bini, bins, binb, binp, binq, isSlT, bina, shp, eqCells, unv, convv, nilv, faddv, addp, idxav, idxp, load1, load1m, loadn, loadnm, loadv, hget, hset, hrep, hdel, slicev, slice3v, bnd, shift1, lenv, capv, IntKind.bits, extractv, fieldv, indexv, min2v, max2v, mkiv, tasv, tasz, cellsA, fillA, buildv, stC, oneC, rowMB, intsA, plN, appE, appZ, appC, appS, srcB, appNZ, appNC, VwL, srcC, srcZ, srcM, isBoolT, isPtrT, isSliceT, uOk, Value.oneCell', Nat.reducePow, Int.reducePow, Nat.reduceAdd, Nat.reduceMul, Nat.reduceSub, Nat.reduceLT, Nat.reduceLeDiff, Nat.reduceEqDiff, Nat.reduceBEq, Nat.reduceDiv, Nat.reduceMod, ↓reduceIte, reduceCtorEq, Int.reduceToNat, Int.reduceLT, Int.reduceLE, TFCnO, SeqQ, BlkQ, LoopQ, BodyQ, List.append_nil, FR.out]) | refine CallV.updM (c5) (pmz _) (Sm.out ?_) | (refine CallV.updM (c6) (pmz _) (Sm.out ?_)) | ((first | refine ExF.up ?_ (c6) (Sm.out ?_) | refine ExG.up ?_ (fun _ => c6) (Sm.out ?_) | refine ExG.upJ ?_ (fun _ => c6) (Sm.out ?_) | refine ExG.upI ?_ (fun _ => c6) (Ob.out ?_) (Sm.out ?_)); focus (exact ⟨_, (pmz _)⟩)) | refine WP.seq fun K hK => ?_ | refine WP.region (rvc_sound _ _ (Sm.out ?_)) | refine WP.drawK rfl mixed (by decide +kernel) (Sm.out ?_) | (refine Ob.mk ?_; focus (first | assumption | omega | decide | trivial | (intro hob; simp only [hob, ZF]; done) | (intros; (repeat' refine And.intro ?_ ?_) <;> first | assumption | omega | trivial | decide) | (intros; simp only [ZE] at *; (repeat' refine And.intro ?_ ?_) <;> first | assumption | omega | trivial))) | refine And.intro (Ob.out ?_) ?_ | refine WP.block ?_ | (refine WP.cond rfl (fun hc => ?_) (fun hc => ?_) <;> (try simp only [ZC, reduceCtorEq, ZD] at hc) <;> (try exact absurd hc (by decide)) <;> (try (exfalso; omega))) | ((first | refine WP.skip ?_ | refine WP.exit ?_); simp only [SeqQ, BlkQ, LoopQ, BodyQ, ↓reduceIte, Nat.reduceEqDiff, reduceCtorEq, look, true_and]) | refine WP.ret (Sm.out ?_) | (first | refine ExG.no (Sm.out ?_) | refine Or.inl (ExG.no (Sm.out ?_)) | refine Or.inl (And.intro (fun hg => absurd hg (by decide)) (ExG.no (Sm.out ?_)))) | (refine Rt.mk ?_; refine And.intro ?_ ?_ <;> (intro hg; first | exact absurd hg (by decide) | refine Sm.out ?_)) | (refine Nu.mk ?_; first | (fail_if_success have := nb1); intro nb1 | (fail_if_success have := nb2); intro nb2 | (fail_if_success have := nb3); intro nb3 | (fail_if_success have := nb4); intro nb4 | (fail_if_success have := nb5); intro nb5 | (fail_if_success have := nb6); intro nb6 | (fail_if_success have := nb7); intro nb7 | (fail_if_success have := nb8); intro nb8 | intro nbz) | (refine Fr.mk ?_; intro hfr; (first | (have hFRb : _ ≤ _ ∧ _ ≤ _ := And.intro hfr.1 hfr.2.1) | (have hFRb : _ ≤ _ := hfr.1) | skip); replace FR := Sm.mk (And.intro hfr FR.out); clear hfr; refine Sm.out ?_) | refine Two.mk ?_ ?_ | (refine Cs.mk ?_; intro hcs; first | exact False.elim hcs | (exfalso; omega) | (refine Sm.out ?_)) | go_step | omega | (simp only [maxLen_eq]; omega)
  (refine OutQ.all ?_ ?_; (focus (simp only [resv, ZK, look, loadv, loadn, loadnm, load1, load1m, hget, ↓reduceIte, Nat.reduceEqDiff, Nat.reduceAdd, Nat.reduceMul, Nat.reduceLeDiff, Nat.reduceLT, reduceCtorEq, TFCnO])); (try simp only [resv, resA, Fn, ZK, look, loadv, loadn, loadnm, load1, load1m, hget, ↓reduceIte, Nat.reduceEqDiff, Nat.reduceAdd, Nat.reduceMul, Nat.reduceLeDiff, Nat.reduceLT, reduceCtorEq, TFCnO]); (try simp [resA, Fn, look]))
abbrev keyTy : Ty := .st [.str, .str, .bool, .int .u64, .bool]
abbrev msgTy : Ty := .st [.str, .bool, .sl keyTy]
theorem ky_rows : ∀ (rows : List (List AV)), (∀ r ∈ rows, Shp keyTy r) → ∃ L : List Ky, L.length = rows.length ∧ rows.flatten = kcs L
  | [], _ => ⟨[], rfl, rfl⟩
  | r :: rows, h => by
    obtain ⟨L, l1, l2⟩ := ky_rows rows fun x hx => h x (List.mem_cons_of_mem _ hx)
    have h0 := h r (List.mem_cons_self ..)
    simp only [Shp, ShpL] at h0
    obtain ⟨_, _, rfl, ⟨a, rfl, ha⟩, _, _, rfl, ⟨b, rfl, hb⟩, _, _, rfl, ⟨c, rfl⟩, _, _, rfl, ⟨d, rfl, hd⟩, _, _, rfl, ⟨e, rfl⟩, rfl⟩ := h0
    exact ⟨⟨a, b, c, d, e⟩ :: L, by simp [l1], by simp [l2, kcs]⟩
theorem msg_shp {xs : List AV} (h : Shp msgTy xs) : ∃ m : Mg, xs = [.lit (.string m.g), bv m.p, .sl m.ks.length (kcs m.ks)] := by
  simp only [Shp, ShpL] at h
  obtain ⟨_, _, rfl, ⟨a, rfl, ha⟩, _, _, rfl, ⟨b, rfl⟩, _, _, rfl, ⟨rows, rfl, hr⟩, rfl⟩ := h
  obtain ⟨L, l1, l2⟩ := ky_rows rows fun r hr' => by
    have := hr r hr'
    simpa only [Shp, ShpL] using this
  exact ⟨⟨a, b, L⟩, by simp [l1, l2]⟩
theorem ACt.wkR {P : Program} {f : FuncId} {args : List AV} {F : Hp} {p q : AV → Hp → Prop} (h : ACt P f args F p) (hq : ∀ r F', p r F' → ∃ r', q r' F' ∧ ∀ w I v, Rep w I v r → Rep w I v r') : ACt P f args F q :=
  fun cx vs h1 h2 h3 h4 => (h cx vs h1 h2 h3 h4).mono fun e w' ⟨v, r, F', a, b, c, d⟩ => by
    obtain ⟨r', hq', hr'⟩ := hq r F' b
    exact ⟨v, r', F', a, hq', c, hr' _ _ _ d⟩
theorem rep_kV (ks : List Ky) {w : World} {I : Nat → Prop} {v : Value} (h : Rep w I v (kV ks)) : Rep w I v (.sl ks.length (kcs ks)) := by
  cases ks with
  | nil => exact Rep.nils h
  | cons k r => exact h
theorem rep_flR (l : List Pk) {w : World} {I : Nat → Prop} {v : Value} (h : Rep w I v (flR l)) : Rep w I v (.sl l.length (pcs l)) := by
  cases l with
  | nil => exact Rep.nils h
  | cons k r => exact h
theorem does_u (c : Nat) (a : CA) (ha : AOk a) (g : CS c a) (x : Ac) (hz : ∀ k ∈ x.m.ks, Kz k) : ACt Try.prog 9 [pt c 0, av x] (cH c a g.1) (fun r F' => ∃ g' : CS c (stA a x).1, r = .tup [.sl (stA a x).2.1.length (kcs (stA a x).2.1), iv .i64 (stA a x).2.2] ∧ F' = cH c (stA a x).1 g'.1) :=
  (does_ct c a ha g x hz).wkR fun r F' hr => by
    obtain ⟨g', e1, e2⟩ := hr
    subst e1
    refine ⟨_, ⟨g', rfl, e2⟩, fun w I v h => ?_⟩
    cases h with
    | tup vs cs hs r =>
      refine .tup _ _ hs fun i hi => ?_
      have hi2 : i < 2 := hi
      rcases (by omega : i = 0 ∨ i = 1) with rfl | rfl
      · exact rep_kV _ (r 0 (by simp))
      · exact r 1 (by simp)
theorem flying_u (c : Nat) (a : CA) (ha : AOk a) (g : CS c a) : ACt Try.prog 17 [pt c 0] (cH c a g.1) (fun r F' => r = .sl a.l.length (pcs a.l) ∧ F' = cH c a g.1) :=
  (flying_c c a ha g).wkR fun r F' hr => by
    obtain ⟨e1, e2⟩ := hr
    subst e1
    exact ⟨_, ⟨rfl, e2⟩, fun w I v h => rep_flR _ h⟩
theorem heard_u (c : Nat) (a : CA) (ha : AOk a) (g : CS c a) : ACt Try.prog 18 [pt c 0] (cH c a g.1) (fun r F' => r = .sl a.h.length (kcs a.h) ∧ F' = cH c a g.1) :=
  (heard_c c a ha g).wkR fun r F' hr => by
    obtain ⟨e1, e2⟩ := hr
    subst e1
    exact ⟨_, ⟨rfl, e2⟩, fun w I v h => rep_kV _ h⟩
theorem dlv_told {a : CA} {t : Nat} (h : BOk t a) (i : Int) : (dlv a i).2.1.length ≤ 100000 := by
  unfold dlv
  split
  · split
    · have := (h.m _ (List.getElem_mem (show i.toNat < a.l.length by omega))).2.1
      simp only; omega
    · simp
  · simp
theorem pt1 {α : Type} (a : α) (G : List α) : List.Perm (a :: G) (G ++ [a]) := List.perm_append_comm (l₁ := [a]) (l₂ := G)
theorem px {α : Type} (A B : List α) : List.Perm (A ++ B) (B ++ A) := List.perm_append_comm
abbrev actTy : Ty := .st [.int .i64, .int .i64, msgTy]
theorem ac_rows : ∀ (rows : List (List AV)), (∀ r ∈ rows, Shp actTy r) → ∃ L : List Ac, L.length = rows.length ∧ rows.flatten = acs L
  | [], _ => ⟨[], rfl, rfl⟩
  | r :: rows, h => by
    obtain ⟨L, l1, l2⟩ := ac_rows rows fun x hx => h x (List.mem_cons_of_mem _ hx)
    have h0 := h r (List.mem_cons_self ..)
    unfold Shp ShpL at h0
    obtain ⟨_, y1, rfl, h1, h2⟩ := h0
    unfold ShpL at h2
    obtain ⟨_, y2, rfl, h3, h4⟩ := h2
    unfold ShpL at h4
    obtain ⟨_, y3, rfl, h5, h6⟩ := h4
    unfold Shp at h1 h3
    obtain ⟨a, rfl, -⟩ := h1
    obtain ⟨b, rfl, -⟩ := h3
    unfold ShpL at h6
    subst h6
    obtain ⟨m, rfl⟩ := msg_shp h5
    exact ⟨⟨a, b, m⟩ :: L, by simp [l1], by simp [l2, acs]⟩
theorem hasB_iff {l : List Ky} {k : Ky} : hasB l k = true ↔ k ∈ l := by
  constructor
  · intro h; unfold hasB at h; exact @of_decide_eq_true _ (Classical.propDecidable _) h
  · exact hasB_t
theorem addH_pre (h : List Ky) (k : Ky) : ∃ t, addH h k = h ++ t := by
  unfold addH
  split
  · exact ⟨[], by simp⟩
  · exact ⟨[k], rfl⟩
theorem hrL_pre : ∀ (ks h : List Ky), ∃ t, hrL h ks = h ++ t
  | [], h => ⟨[], by rw [hrL_nil]; simp⟩
  | k :: ks, h => by
    obtain ⟨t1, h1⟩ := addH_pre h k
    obtain ⟨t2, h2⟩ := hrL_pre ks (addH h k)
    exact ⟨t1 ++ t2, by rw [hrL_cons, h2, h1, List.append_assoc]⟩
theorem addH_mem (h : List Ky) (k x : Ky) : x ∈ addH h k ↔ x ∈ h ∨ x = k := by
  unfold addH
  split
  · rename_i hh
    have := hasB_iff.1 hh
    exact ⟨.inl, fun h => by rcases h with h | rfl; exact h; exact this⟩
  · simp
theorem hrL_mem : ∀ (ks h : List Ky) (x : Ky), x ∈ hrL h ks ↔ x ∈ h ∨ x ∈ ks
  | [], h, x => by rw [hrL_nil]; simp
  | k :: ks, h, x => by
    rw [hrL_cons, hrL_mem ks, addH_mem, List.mem_cons, or_assoc]
theorem addH_nd {h : List Ky} {k : Ky} (hn : h.Nodup) : (addH h k).Nodup := by
  unfold addH
  split
  · exact hn
  · rename_i hh
    rw [List.nodup_append]
    refine ⟨hn, by simp, fun a ha b hb => ?_⟩
    rw [List.mem_singleton.1 hb]
    intro e
    subst e
    exact hh (hasB_t ha)
theorem hrL_nd : ∀ (ks h : List Ky), h.Nodup → (hrL h ks).Nodup
  | [], h, hn => by rw [hrL_nil]; exact hn
  | k :: ks, h, hn => by rw [hrL_cons]; exact hrL_nd ks _ (addH_nd hn)
structure OnI (a : CA) (po : List Ky) (fl : Int) : Prop where
  f : fl = IntKind.u64.wrap ((a.l.length : Int) + a.n)
  hp : ∀ k ∈ a.h, k ∈ po
  hn : a.h.Nodup
  lp : ∀ p ∈ a.l, p.a = false → ∀ k ∈ p.m.ks, k ∈ po
  rh : ∀ p ∈ a.l, p.a = true → ∀ k ∈ p.m.ks, k ∈ a.h
def poN (x : Ac) (code : Int) (po : List Ky) : List Ky := if x.kd = 1 ∧ code = 0 then po ++ x.m.ks else po
def flN (x : Ac) (told : List Ky) (code : Int) (fl : Int) : Int :=
  if (x.kd = 1 ∨ x.kd = 4) ∧ code = 0 then IntKind.u64.wrap (fl + 1) else if x.kd = 1 ∧ code = 11 then IntKind.u64.wrap (fl + 1) else if x.kd = 2 ∧ code = 0 ∧ told ≠ [] then IntKind.u64.wrap (fl - 1) else fl
theorem wr_add (a b : Int) : IntKind.u64.wrap (IntKind.u64.wrap a + b) = IntKind.u64.wrap (a + b) := by
  simp only [IntKind.wrap, IntKind.bits, IntKind.signed]
  simp
theorem wr_sub (a b : Int) : IntKind.u64.wrap (IntKind.u64.wrap a - b) = IntKind.u64.wrap (a - b) := by
  simp only [IntKind.wrap, IntKind.bits, IntKind.signed]
  simp
theorem wr_add2 (a b : Int) : IntKind.u64.wrap (a + IntKind.u64.wrap b) = IntKind.u64.wrap (a + b) := by
  rw [Int.add_comm, wr_add, Int.add_comm]
theorem on_step {t : Nat} {a : CA} {po : List Ky} {fl : Int} (hb : BOk t a) (h : OnI a po fl) (x : Ac) :
    OnI (stA a x).1 (poN x (stA a x).2.2 po) (flN x (stA a x).2.1 (stA a x).2.2 fl) ∧ (∃ tl, (stA a x).1.h = a.h ++ tl) ∧ (∀ k ∈ (stA a x).2.1, k ∈ (stA a x).1.h) := by
  obtain ⟨f, hp, hn, lp, rh⟩ := h
  obtain ⟨kd, xi, m⟩ := x
  obtain ⟨l, hh, n⟩ := a
  have hpre : ∃ tl, hh = hh ++ tl := ⟨[], by simp⟩
  have hm := hb.m
  have hl60 := hb.l
  simp only at f hp hn lp rh hm hl60
  have mer : ∀ (i : Nat) (p : Pk), p ∈ l.eraseIdx i → p ∈ l := fun i p hp => List.mem_of_mem_eraseIdx hp
  unfold stA
  simp only
  by_cases h1 : kd = 1
  · subst h1
    rw [if_pos rfl]
    unfold pst
    by_cases hmr : mrB m = false
    · rw [if_pos hmr]
      simp only [poN, flN]
      rw [if_neg (by simp), if_neg (by simp), if_neg (by simp), if_neg (by simp)]
      exact ⟨⟨f, hp, hn, lp, rh⟩, hpre, by simp⟩
    rw [if_neg hmr]
    by_cases h60 : 60 ≤ l.length
    · rw [if_pos h60]
      simp only [poN, flN]
      rw [if_neg (by simp), if_neg (by simp), if_pos (by simp)]
      refine ⟨⟨?_, hp, hn, lp, rh⟩, hpre, by simp⟩
      simp only
      rw [f, wr_add, wr_add2, Int.add_assoc]
    · rw [if_neg h60]
      simp only [poN, flN]
      rw [if_pos (by simp), if_pos (by simp)]
      refine ⟨⟨?_, fun k hk => List.mem_append_left _ (hp k hk), hn, fun p hpp ha k hk => ?_, fun p hpp ha k hk => ?_⟩, hpre, by simp⟩
      · simp only [List.length_append, List.length_cons, List.length_nil]
        rw [f, wr_add]; congr 1; omega
      · rcases List.mem_append.1 hpp with hpp | hpp
        · exact List.mem_append_left _ (lp p hpp ha k hk)
        · rw [List.mem_singleton.1 hpp] at hk
          exact List.mem_append_right _ hk
      · rcases List.mem_append.1 hpp with hpp | hpp
        · exact rh p hpp ha k hk
        · rw [List.mem_singleton.1 hpp] at ha; cases ha
  rw [if_neg h1]
  have hpo : ∀ c, poN ⟨kd, xi, m⟩ c po = po := fun c => if_neg (fun h => h1 h.1)
  by_cases h2 : kd = 2
  · subst h2
    rw [if_pos rfl]
    rw [hpo]
    unfold dlv
    by_cases hi : 0 ≤ xi ∧ xi < (l.length : Int)
    · rw [dif_pos hi]
      obtain ⟨j, rfl⟩ := Int.eq_ofNat_of_zero_le hi.1
      have hj : j < l.length := by omega
      simp only [Int.ofNat_eq_natCast, Int.toNat_natCast]
      have hpm := List.getElem_mem hj
      have hmr := hm _ hpm
      have hks : l[j].m.ks ≠ [] := fun e => by have := hmr.1; rw [e] at this; simp at this
      have hel := List.length_eraseIdx_of_lt hj
      by_cases ha : l[j].a = true
      · rw [if_pos ha]
        simp only [flN]
        rw [if_neg (by simp), if_neg (by simp), if_pos (by simp [hks])]
        refine ⟨⟨?_, hp, hn, fun p hpp => lp p (mer _ p hpp), fun p hpp => rh p (mer _ p hpp)⟩, hpre, rh _ hpm ha⟩
        simp only
        rw [f, wr_sub, hel]; congr 1; omega
      · rw [if_neg ha]
        simp only [flN]
        rw [if_neg (by simp), if_neg (by simp), if_neg (by simp)]
        have ha' : l[j].a = false := by simpa using ha
        refine ⟨⟨?_, fun k hk => ?_, hrL_nd _ _ hn, fun p hpp hpa k hk => ?_, fun p hpp hpa k hk => ?_⟩, hrL_pre _ _, by simp⟩
        · simp only [List.length_append, List.length_cons, List.length_nil]
          rw [f, hel]; congr 1; omega
        · rcases (hrL_mem _ _ _).1 hk with hk | hk
          · exact hp k hk
          · exact lp _ hpm ha' k hk
        · rcases List.mem_append.1 hpp with hpp | hpp
          · exact lp p (mer _ p hpp) hpa k hk
          · rw [List.mem_singleton.1 hpp] at hpa; cases hpa
        · rcases List.mem_append.1 hpp with hpp | hpp
          · exact (hrL_mem _ _ _).2 (.inl (rh p (mer _ p hpp) hpa k hk))
          · rw [List.mem_singleton.1 hpp] at hk
            exact (hrL_mem _ _ _).2 (.inr hk)
    · rw [dif_neg hi]
      simp only [flN]
      rw [if_neg (by simp), if_neg (by simp), if_neg (by simp)]
      exact ⟨⟨f, hp, hn, lp, rh⟩, hpre, by simp⟩
  rw [if_neg h2]
  by_cases h3 : kd = 3
  · subst h3
    rw [if_pos rfl]
    simp only
    rw [hpo]
    unfold lse
    by_cases hi : 0 ≤ xi ∧ xi < (l.length : Int)
    · rw [if_pos hi]
      simp only [flN]
      rw [if_neg (by simp), if_neg (by simp), if_neg (by simp)]
      refine ⟨⟨?_, hp, hn, fun p hpp => lp p (mer _ p hpp), fun p hpp => rh p (mer _ p hpp)⟩, hpre, by simp⟩
      simp only
      rw [f, wr_add2, List.length_eraseIdx_of_lt (by omega)]; congr 1; omega
    · rw [if_neg hi]
      simp only [flN]
      rw [if_neg (by simp), if_neg (by simp), if_neg (by simp)]
      exact ⟨⟨f, hp, hn, lp, rh⟩, hpre, by simp⟩
  rw [if_neg h3]
  by_cases h4 : kd = 4
  · subst h4
    rw [if_pos rfl]
    simp only
    rw [hpo]
    unfold dbl
    by_cases hi : 0 ≤ xi ∧ xi < (l.length : Int)
    · rw [dif_pos hi]
      have hpm := List.getElem_mem (show xi.toNat < l.length by omega)
      by_cases h60 : 60 ≤ l.length
      · rw [if_pos h60]
        simp only [flN]
        rw [if_neg (by simp), if_neg (by simp), if_neg (by simp)]
        exact ⟨⟨f, hp, hn, lp, rh⟩, hpre, by simp⟩
      · rw [if_neg h60]
        simp only [flN]
        rw [if_pos (by simp)]
        refine ⟨⟨?_, hp, hn, fun p hpp hpa k hk => ?_, fun p hpp hpa k hk => ?_⟩, hpre, by simp⟩
        · simp only [List.length_append, List.length_cons, List.length_nil]
          rw [f, wr_add]; congr 1; omega
        · rcases List.mem_append.1 hpp with hpp | hpp
          · exact lp p hpp hpa k hk
          · rw [List.mem_singleton.1 hpp] at hpa hk; exact lp _ hpm hpa k hk
        · rcases List.mem_append.1 hpp with hpp | hpp
          · exact rh p hpp hpa k hk
          · rw [List.mem_singleton.1 hpp] at hpa hk; exact rh _ hpm hpa k hk
    · rw [dif_neg hi]
      simp only [flN]
      rw [if_neg (by simp), if_neg (by simp), if_neg (by simp)]
      exact ⟨⟨f, hp, hn, lp, rh⟩, hpre, by simp⟩
  rw [if_neg h4]
  simp only
  rw [hpo]
  simp only [flN]
  rw [if_neg (fun h => by rcases h.1 with e | e; exact h1 e; exact h4 e), if_neg (fun h => h1 h.1), if_neg (fun h => h2 h.1)]
  exact ⟨⟨f, hp, hn, lp, rh⟩, hpre, by simp⟩
end Go.Proofs.Ytbkojpkdphggeaa
