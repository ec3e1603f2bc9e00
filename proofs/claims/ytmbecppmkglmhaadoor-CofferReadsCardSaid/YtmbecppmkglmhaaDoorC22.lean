/-
  The walks and the laws that the statement leans on, part 22.
-/
import Derived.Test.YtmbecppmkglmhaaDoorC17
import Derived.Test.YtmbecppmkglmhaaDoorC21
namespace Go.Proofs.YtmbecppmkglmhaaDoor
open Go
set_option linter.unusedVariables false
set_option linter.unusedSimpArgs false
theorem flat_set {s : Nat} {L : List (List Int)} {i : Nat} {x : List Int} (hL : ∀ z ∈ L, z.length = s) (hi : i < L.length) : (L.set i x).flatten = L.flatten.take (i * s) ++ (x ++ L.flatten.drop (i * s + s)) := by
  have hy : L[i]? = some (L.getD i []) := by rw [List.getD_eq_getElem?_getD, List.getElem?_eq_getElem hi]; rfl
  obtain ⟨y, hyy⟩ : ∃ y, y = L.getD i [] := ⟨_, rfl⟩
  rw [← hyy] at hy
  obtain ⟨A, B, h1, h2, h3⟩ := flat_split L i y hL hy
  have ly : y.length = s := hL y (List.mem_of_getElem? hy)
  rw [h3, h2, Nat.mul_comm i s, ← h1, List.take_left]
  have e : A.length + s = A.length + y.length := by rw [ly]
  rw [e, ← List.append_assoc A y B, ← List.length_append, List.drop_left]
theorem flat_get {s : Nat} {L : List (List Int)} {i : Nat} (hL : ∀ z ∈ L, z.length = s) (hi : i < L.length) : L.getD i [] = (L.flatten.drop (i * s)).take s := by
  have hy : L[i]? = some (L.getD i []) := by rw [List.getD_eq_getElem?_getD, List.getElem?_eq_getElem hi]; rfl
  obtain ⟨y, hyy⟩ : ∃ y, y = L.getD i [] := ⟨_, rfl⟩
  rw [← hyy] at hy ⊢
  obtain ⟨A, B, h1, h2, -⟩ := flat_split L i y hL hy
  have ly : y.length = s := hL y (List.mem_of_getElem? hy)
  rw [h2, Nat.mul_comm i s, ← h1, List.drop_left, ← ly, List.take_left]
def chs (s : Nat) : Nat → List Int → List (List Int)
  | 0, _ => []
  | k + 1, z => if z = [] then [] else z.take s :: chs s k (z.drop s)
theorem chs_le {s : Nat} : ∀ (k : Nat) (z : List Int), ∀ c ∈ chs s k z, c.length ≤ s
  | 0, z, c, h => by cases h
  | k + 1, z, c, h => by
    unfold chs at h
    split at h
    · cases h
    · rcases List.mem_cons.1 h with rfl | h
      · rw [List.length_take]; omega
      · exact chs_le k _ c h
theorem chs_fuel {s : Nat} (hs : 1 ≤ s) : ∀ (k j : Nat) (z : List Int), z.length ≤ k → z.length ≤ j → chs s k z = chs s j z := by
  intro k
  induction k with
  | zero =>
    intro j z h1 h2
    have : z = [] := List.eq_nil_of_length_eq_zero (by omega)
    subst this
    cases j <;> simp [chs]
  | succ k ih =>
    intro j z h1 h2
    by_cases hz : z = []
    · subst hz; cases j <;> simp [chs]
    · have : z.length ≠ 0 := fun h => hz (List.eq_nil_of_length_eq_zero h)
      obtain ⟨m, rfl⟩ : ∃ m, j = m + 1 := ⟨j - 1, by omega⟩
      simp only [chs, if_neg hz]
      rw [ih m (z.drop s) (by simp only [List.length_drop]; omega) (by simp only [List.length_drop]; omega)]
abbrev cks (s : Nat) (z : List Int) : List (List Int) := chs s z.length z
theorem cks_nil (s : Nat) : cks s [] = [] := rfl
theorem cks_cons {s : Nat} {z : List Int} (hs : 1 ≤ s) (hz : z ≠ []) : cks s z = z.take s :: cks s (z.drop s) := by
  unfold cks
  have : z.length ≠ 0 := fun h => hz (List.eq_nil_of_length_eq_zero h)
  obtain ⟨m, hm⟩ : ∃ m, z.length = m + 1 := ⟨z.length - 1, by omega⟩
  rw [hm]
  simp only [chs, if_neg hz]
  rw [chs_fuel hs m _ (z.drop s) (by simp only [List.length_drop]; omega) (Nat.le_refl _)]
theorem cks_pads {s : Nat} (hs : 1 ≤ s) : ∀ (n : Nat) (z : List Int), z.length ≤ n → ((cks s z).map (pad s)).flatten = z ++ List.replicate ((cks s z).length * s - z.length) 0 ∧ z.length ≤ (cks s z).length * s ∧ (cks s z).length * s < z.length + s := by
  intro n
  induction n with
  | zero =>
    intro z h
    have : z = [] := List.eq_nil_of_length_eq_zero (by omega)
    subst this
    rw [cks_nil]; simp; omega
  | succ n ih =>
    intro z h
    by_cases hz : z = []
    · subst hz; rw [cks_nil]; simp; omega
    · have h0 : z.length ≠ 0 := fun h => hz (List.eq_nil_of_length_eq_zero h)
      obtain ⟨i1, i2, i3⟩ := ih (z.drop s) (by simp only [List.length_drop]; omega)
      rw [cks_cons hs hz]
      simp only [List.map_cons, List.flatten_cons, List.length_cons]
      rw [i1]
      simp only [List.length_drop] at i2 i3
      rw [Nat.add_mul, Nat.one_mul]
      obtain ⟨q, hq⟩ : ∃ q, q = (cks s (z.drop s)).length * s := ⟨_, rfl⟩
      rw [← hq] at i2 i3 ⊢
      by_cases hl : s ≤ z.length
      · refine ⟨?_, by omega, by omega⟩
        have e1 : pad s (z.take s) = z.take s := by unfold pad; simp; omega
        rw [e1, ← List.append_assoc, List.take_append_drop]
        congr 2
        simp only [List.length_drop]; omega
      · have e1 : z.take s = z := List.take_of_length_le (by omega)
        have e2 : z.drop s = [] := List.drop_of_length_le (by omega)
        have e3 : q = 0 := by rw [hq, e2, cks_nil]; simp
        refine ⟨?_, by omega, by omega⟩
        rw [e1, e2, e3]
        unfold pad
        simp
theorem cks_len_le {s k : Nat} {z : List Int} (hs : 1 ≤ s) (h : z.length ≤ k * s) : (cks s z).length ≤ k := by
  obtain ⟨-, h2, h3⟩ := cks_pads hs _ z (Nat.le_refl _)
  have : (cks s z).length * s < (k + 1) * s := by rw [Nat.add_mul, Nat.one_mul]; omega
  have := Nat.lt_of_mul_lt_mul_right this
  omega
def wrs (s : Nat) : Nat → List (List Int) → List (Nat × List Int)
  | _, [] => []
  | i, z :: r => (i, pad s z) :: wrs s (i + 1) r
def put {α : Type} (T : List α) (q : Nat) (x : List α) : List α := T.take q ++ (x ++ T.drop (q + x.length))
theorem pads_len {s : Nat} : ∀ {cs : List (List Int)}, (∀ c ∈ cs, c.length ≤ s) → ((cs.map (pad s)).flatten).length = cs.length * s
  | [], _ => by simp
  | c :: r, h => by
    simp only [List.map_cons, List.flatten_cons, List.length_append, List.length_cons, pads_len fun x hx => h x (List.mem_cons_of_mem _ hx), pad_len (h c (List.mem_cons_self ..)), Nat.add_mul, Nat.one_mul]
    omega
theorem lay_flat {s : Nat} : ∀ (cs : List (List Int)) (L : List (List Int)) (i : Nat), (∀ z ∈ L, z.length = s) → (∀ c ∈ cs, c.length ≤ s) → i + cs.length ≤ L.length →
    (layW L (wrs s i cs)).flatten = put L.flatten (i * s) ((cs.map (pad s)).flatten)
  | [], L, i, hL, hc, hi => by
    simp only [wrs, layW, put, List.map_nil, List.flatten_nil, List.length_nil, Nat.add_zero, List.nil_append, List.take_append_drop]
  | c :: r, L, i, hL, hc, hi => by
    have hp := pad_len (hc c (List.mem_cons_self ..))
    simp only [List.length_cons] at hi
    have ih := lay_flat r (L.set i (pad s c)) (i + 1) (set_rows hL hp) (fun x hx => hc x (List.mem_cons_of_mem _ hx)) (by rw [List.length_set]; omega)
    have hr := pads_len (s := s) (cs := r) fun x hx => hc x (List.mem_cons_of_mem _ hx)
    have hf := flat_len L hL
    have hil : i * s + s + r.length * s ≤ L.length * s := by
      have := Nat.mul_le_mul_right s hi
      simp only [Nat.add_mul, Nat.one_mul] at this; omega
    simp only [wrs, layW]
    rw [ih, flat_set hL (by omega)]
    unfold put
    simp only [List.map_cons, List.flatten_cons, List.length_append, hp, hr]
    rw [Nat.add_mul, Nat.one_mul]
    have l1 : (L.flatten.take (i * s)).length = i * s := by rw [List.length_take, hf]; omega
    have e1 : (L.flatten.take (i * s) ++ (pad s c ++ L.flatten.drop (i * s + s))).take (i * s + s) = L.flatten.take (i * s) ++ pad s c := by
      rw [← List.append_assoc, List.take_append_of_le_length (by rw [List.length_append, l1, hp]; omega), List.take_of_length_le (by rw [List.length_append, l1, hp]; omega)]
    have e2 : (L.flatten.take (i * s) ++ (pad s c ++ L.flatten.drop (i * s + s))).drop (i * s + s + r.length * s) = L.flatten.drop (i * s + (s + r.length * s)) := by
      rw [← List.append_assoc, List.drop_append, List.drop_of_length_le (by rw [List.length_append, l1, hp]; omega), List.nil_append, List.length_append, l1, hp, List.drop_drop]
      congr 1; omega
    rw [e1, e2]
    simp only [List.append_assoc]
theorem put_take {α : Type} {T x : List α} {q p : Nat} (h : p ≤ q) (hq : q ≤ T.length) : (put T q x).take p = T.take p := by
  unfold put
  rw [List.take_append_of_le_length (by rw [List.length_take]; omega), List.take_take, Nat.min_eq_left h]
theorem put_drop {α : Type} {T x : List α} {q p : Nat} (h : q + x.length ≤ p) (hq : q ≤ T.length) : (put T q x).drop p = T.drop p := by
  unfold put
  have l1 : (T.take q).length = q := by rw [List.length_take]; omega
  rw [← List.append_assoc, List.drop_append, List.drop_of_length_le (by rw [List.length_append, l1]; omega), List.nil_append, List.length_append, l1, List.drop_drop]
  congr 1; omega
theorem put_len {α : Type} {T x : List α} {q : Nat} (h : q + x.length ≤ T.length) : (put T q x).length = T.length := by
  unfold put
  simp only [List.length_append, List.length_take, List.length_drop]; omega
theorem cr_flat {s t : Nat} (ht : t ≤ s) : ∀ (cs : List (List Int)) (L : List (List Int)) (i k : Nat), (∀ z ∈ L, z.length = s) → (∀ c ∈ cs, c.length ≤ s) → i + cs.length ≤ L.length →
    ∃ p, i * s ≤ p ∧ (crL L (wrs s i cs) k t).flatten = mix (put L.flatten (i * s) ((cs.map (pad s)).flatten)) L.flatten p
  | [], L, i, k, hL, hc, hi => ⟨i * s, Nat.le_refl _, by
      have hf := flat_len L hL
      have hil : i * s ≤ L.length * s := Nat.mul_le_mul_right s (by simpa using hi)
      have e : crL L (wrs s i []) k t = L := by unfold crL; simp [wrs, layW]
      rw [e]
      unfold mix
      rw [put_take (Nat.le_refl _) (by omega), List.take_append_drop]⟩
  | c :: r, L, i, 0, hL, hc, hi => by
    have hp := pad_len (hc c (List.mem_cons_self ..))
    have hf := flat_len L hL
    have hr := pads_len hc
    simp only [List.length_cons] at hi hr
    have hil : i * s + s + r.length * s ≤ L.length * s := by
      have := Nat.mul_le_mul_right s hi
      simp only [Nat.add_mul, Nat.one_mul] at this; omega
    refine ⟨i * s + t, by omega, ?_⟩
    have e : crL L (wrs s i (c :: r)) 0 t = L.set i ((pad s c).take t ++ (L.getD i []).drop t) := by unfold crL; simp [wrs, layW]
    rw [e, flat_set hL (by omega), flat_get hL (by omega)]
    unfold mix put
    have l1 : (L.flatten.take (i * s)).length = i * s := by rw [List.length_take, hf]; omega
    rw [List.take_append, l1, List.take_of_length_le (l := L.flatten.take (i * s)) (by omega), Nat.add_sub_cancel_left]
    simp only [List.map_cons, List.flatten_cons]
    rw [List.append_assoc (pad s c), List.take_append_of_le_length (by omega)]
    simp only [List.append_assoc]
    congr 2
    rw [List.drop_take, List.drop_drop]
    have e2 : L.flatten.drop (i * s + s) = (L.flatten.drop (i * s + t)).drop (s - t) := by rw [List.drop_drop]; congr 1; omega
    rw [e2, List.take_append_drop]
  | c :: r, L, i, k + 1, hL, hc, hi => by
    have hp := pad_len (hc c (List.mem_cons_self ..))
    have hf := flat_len L hL
    have hr := pads_len hc
    simp only [List.length_cons] at hi hr
    have hil : i * s + s + r.length * s ≤ L.length * s := by
      have := Nat.mul_le_mul_right s hi
      simp only [Nat.add_mul, Nat.one_mul] at this; omega
    have e : crL L (wrs s i (c :: r)) (k + 1) t = crL (L.set i (pad s c)) (wrs s (i + 1) r) k t := by unfold crL; simp [wrs, layW]
    obtain ⟨p, hp1, hp2⟩ := cr_flat ht r (L.set i (pad s c)) (i + 1) k (set_rows hL hp) (fun x hx => hc x (List.mem_cons_of_mem _ hx)) (by rw [List.length_set]; omega)
    rw [Nat.add_mul, Nat.one_mul] at hp1
    have hcr := fun x hx => hc x (List.mem_cons_of_mem _ hx)
    have l1 := lay_flat (c :: r) L i hL hc (by simpa using hi)
    have l2 := lay_flat r (L.set i (pad s c)) (i + 1) (set_rows hL hp) hcr (by rw [List.length_set]; omega)
    simp only [wrs, layW] at l1
    rw [l1] at l2
    refine ⟨p, by omega, ?_⟩
    rw [e, hp2, ← l2]
    unfold mix
    congr 1
    have e3 : (L.set i (pad s c)).flatten = put L.flatten (i * s) (pad s c) := by rw [flat_set hL (by omega)]; unfold put; rw [hp]
    rw [e3, put_drop (by omega) (by omega)]
def lyR : DA → Nat → List (List Int) → DA × Int
  | a, _, [] => (syA a, syC a)
  | a, i, z :: r => if wrC a i z.length = 0 then lyR (wrA a i z) (i + 1) r else (wrA a i z, wrC a i z.length)
theorem lyR_ok : ∀ (cs : List (List Int)) (a : DA) (i c : Nat), AOk c a → AOk (c + cs.length + 1) (lyR a i cs).1
  | [], a, i, c, h => syA_ok h
  | z :: r, a, i, c, h => by
    unfold lyR
    have h1 := wrA_ok h i z
    split
    · have := lyR_ok r (wrA a i z) (i + 1) (c + 1) h1
      exact this.le (by simp only [List.length_cons]; omega)
    · exact h1.le (by simp only [List.length_cons]; omega)
structure Stl (s n : Nat) (T : List Int) (a : DA) : Prop where
  s : a.size = s
  n : a.n = n
  W : a.W = []
  LS : a.L = a.S
  dk : a.dk = false
  T : a.S.flatten = T
structure Drk (s n q : Nat) (N T : List Int) (a : DA) : Prop where
  dk : a.dk = true
  cr : ∀ keep torn : Int, ∃ p, q ≤ p ∧ Stl s n (mix N T p) (crA a keep torn)
theorem writeC {a : DA} {i : Nat} {k : Nat} (hd : a.dk = false) (hi : i < a.n) (hk : k ≤ a.size) : mayA a i k = 0 := by
  unfold mayA mayC
  rw [hd, if_neg (by simp), if_neg (by omega)]
theorem lyR_raw : ∀ (cs : List (List Int)) (a : DA) (i : Nat), a.dk = false → -1 ≤ a.f → (∀ c ∈ cs, c.length ≤ a.size) → i + cs.length ≤ a.n → 1 ≤ a.n →
    ((lyR a i cs).2 = 0 ∧ (lyR a i cs).1.size = a.size ∧ (lyR a i cs).1.n = a.n ∧ (lyR a i cs).1.dk = false ∧ (lyR a i cs).1.W = [] ∧ (lyR a i cs).1.S = layW a.S (wrs a.size i cs) ∧ (lyR a i cs).1.L = layW a.S (wrs a.size i cs) ∧
        (lyR a i cs).1.de = a.de + cs.length + 1 ∧ (a.f = -1 → (lyR a i cs).1.f = -1)) ∨
    ((lyR a i cs).2 = 12 ∧ (lyR a i cs).1.size = a.size ∧ (lyR a i cs).1.n = a.n ∧ (lyR a i cs).1.dk = true ∧ a.f ≠ -1 ∧ (lyR a i cs).1.L = a.L ∧ ∃ j, j ≤ cs.length ∧ (lyR a i cs).1.W = a.W ++ (wrs a.size i cs).take j)
  | [], a, i, hd, hf, hc, hi, hn => by
    have h1 : ¬ a.dk = true := by rw [hd]; simp
    unfold lyR syA syC
    by_cases h2 : a.f = 0
    · right
      rw [if_neg h1, if_neg h1, if_pos h2, if_pos h2]
      exact ⟨rfl, rfl, rfl, rfl, by omega, rfl, 0, Nat.le_refl _, by simp⟩
    · left
      rw [if_neg h1, if_neg h1, if_neg h2, if_neg h2]
      refine ⟨rfl, rfl, rfl, hd, rfl, rfl, rfl, rfl, fun h => ?_⟩
      simp only [fuseN]; rw [if_pos (by omega)]
  | z :: r, a, i, hd, hf, hc, hi, hn => by
    simp only [List.length_cons] at hi
    have hm := writeC (a := a) (i := i) (k := z.length) hd (by omega) (hc z (List.mem_cons_self ..))
    by_cases h2 : a.f = 0
    · right
      have e1 : wrC a i z.length = 12 := by unfold wrC; rw [if_neg (by omega), if_pos h2]
      have e2 : wrA a i z = { a with dk := true } := by unfold wrA; rw [if_neg (by omega), if_pos h2]
      unfold lyR
      rw [if_neg (by omega), e1, e2]
      exact ⟨rfl, rfl, rfl, rfl, by omega, rfl, 0, Nat.zero_le _, by simp⟩
    · have e1 : wrC a i z.length = 0 := by unfold wrC; rw [if_neg (by omega), if_neg h2]
      have e2 : wrA a i z = { a with f := fuseN a.f, de := a.de + 1, W := a.W ++ [(i, pad a.size z)], S := a.S.set i (pad a.size z) } := by
        unfold wrA; rw [if_neg (by omega), if_neg h2]; rfl
      have hf2 := fuseN_le hf
      have ih := lyR_raw r (wrA a i z) (i + 1) (by rw [e2]; exact hd) (by rw [e2]; exact hf2.1) (by rw [e2]; exact fun x hx => hc x (List.mem_cons_of_mem _ hx)) (by rw [e2]; simp only; omega) (by rw [e2]; exact hn)
      have el : lyR a i (z :: r) = lyR (wrA a i z) (i + 1) r := by rw [lyR, if_pos e1]
      rw [el]
      rcases ih with ⟨i1, i2, i3, i4, i5, i6, i7, i8, i9⟩ | ⟨i1, i2, i3, i4, i5, i6, j, j1, j2⟩
      · left
        rw [e2] at i2 i3 i6 i7 i8 i9
        simp only at i2 i3 i6 i7 i8 i9
        refine ⟨i1, by rw [e2]; exact i2, by rw [e2]; exact i3, i4, i5, ?_, ?_, ?_, fun h => ?_⟩
        · rw [e2]; simp only [wrs, layW]; exact i6
        · rw [e2]; simp only [wrs, layW]; exact i7
        · rw [e2]; simp only [List.length_cons]; omega
        · rw [e2]; exact i9 (by unfold fuseN; rw [if_pos (by omega)])
      · right
        rw [e2] at i2 i3 i5 i6 j2
        simp only at i2 i3 i5 i6 j2
        refine ⟨i1, by rw [e2]; exact i2, by rw [e2]; exact i3, i4, ?_, by rw [e2]; exact i6, j + 1, by simp only [List.length_cons]; omega, ?_⟩
        · intro h; exact i5 (by unfold fuseN; rw [if_pos (by omega)])
        · rw [e2]; simp only [wrs, List.take_succ_cons]; rw [j2]; simp
theorem crL_take {t : Nat} (L : List (List Int)) (W : List (Nat × List Int)) (j k : Nat) (hL : ∀ w ∈ W, w.1 < L.length) : ∃ k' t', t' ≤ t ∧ crL L (W.take j) k t = crL L W k' t' := by
  by_cases h : k < j
  · refine ⟨k, t, Nat.le_refl _, ?_⟩
    unfold crL
    rw [List.getElem?_take_of_lt h, List.take_take, Nat.min_eq_left (by omega)]
  · refine ⟨j, 0, Nat.zero_le _, ?_⟩
    unfold crL
    rw [List.getElem?_take, if_neg h]
    simp only
    rw [List.take_take, Nat.min_eq_right (by omega)]
    cases hw : W[j]? with
    | none => rfl
    | some w =>
      have hm := hL w (List.mem_of_getElem? hw)
      simp only [List.take_zero, List.nil_append, List.drop_zero]
      have hlt : w.1 < (layW L (W.take j)).length := by rw [layW_len]; exact hm
      rw [List.getD_eq_getElem?_getD, List.getElem?_eq_getElem hlt]
      exact (List.set_getElem_self hlt).symm
theorem wrs_lt {s : Nat} : ∀ {cs : List (List Int)} {i n : Nat}, i + cs.length ≤ n → ∀ w ∈ wrs s i cs, w.1 < n
  | [], i, n, h, w, hw => by cases hw
  | z :: r, i, n, h, w, hw => by
    simp only [List.length_cons] at h
    rcases List.mem_cons.1 hw with rfl | hw
    · simp only; omega
    · exact wrs_lt (cs := r) (i := i + 1) (by omega) w hw
theorem lyR_spec {c s n : Nat} {T : List Int} {a : DA} (hA : AOk c a) (hS : Stl s n T a) (i : Nat) (z : List Int) (hi : i + (cks s z).length ≤ n) :
    ((lyR a i (cks s z)).2 = 0 ∧ Stl s n (put T (i * s) (z ++ List.replicate ((cks s z).length * s - z.length) 0)) (lyR a i (cks s z)).1 ∧ (a.f = -1 → (lyR a i (cks s z)).1.f = -1)) ∨
    ((lyR a i (cks s z)).2 = 12 ∧ a.f ≠ -1 ∧ Drk s n (i * s) (put T (i * s) (z ++ List.replicate ((cks s z).length * s - z.length) 0)) T (lyR a i (cks s z)).1) := by
  have hs : a.size = s := hS.s
  have hn : a.n = n := hS.n
  have hs1 : 1 ≤ s := by have := hA.s1; omega
  have hc : ∀ x ∈ cks s z, x.length ≤ s := chs_le _ _
  have hr : ∀ x ∈ a.S, x.length = s := by rw [← hs]; exact hA.Sr
  have hl : a.S.length = n := by rw [← hn]; exact hA.Sl
  have hraw := lyR_raw (cks s z) a i hS.dk hA.f1 (by rw [hs]; exact hc) (by rw [hn]; exact hi) hA.n1
  obtain ⟨p1, -, -⟩ := cks_pads hs1 _ z (Nat.le_refl _)
  rw [← p1, ← hS.T]
  rcases hraw with ⟨h1, h2, h3, h4, h5, h6, h7, h8, h9⟩ | ⟨h1, h2, h3, h4, h5, h6, j, h7, h8⟩
  · left
    refine ⟨h1, ⟨h2.trans hs, h3.trans hn, h5, h7.trans h6.symm, h4, ?_⟩, h9⟩
    rw [h6, hs]
    exact lay_flat _ _ _ hr hc (by omega)
  · right
    refine ⟨h1, h5, h4, fun keep torn => ?_⟩
    rw [hS.W, List.nil_append, hs] at h8
    obtain ⟨k', t', t1, t2⟩ := crL_take (t := hN torn s) a.S (wrs s i (cks s z)) j (hN keep (lyR a i (cks s z)).1.W.length) (wrs_lt (by omega))
    obtain ⟨p, hp1, hp2⟩ := cr_flat (Nat.le_trans t1 (hN_le torn s)) (cks s z) a.S i k' hr hc (by omega)
    refine ⟨p, hp1, ?_⟩
    have e : crL (lyR a i (cks s z)).1.L (lyR a i (cks s z)).1.W (hN keep (lyR a i (cks s z)).1.W.length) (hN torn (lyR a i (cks s z)).1.size) = crL a.S (wrs s i (cks s z)) k' t' := by
      rw [h6, hS.LS, h2, hs, ← t2, ← h8]
    refine ⟨h2.trans hs, h3.trans hn, rfl, rfl, rfl, ?_⟩
    show (crL (lyR a i (cks s z)).1.L (lyR a i (cks s z)).1.W (hN keep (lyR a i (cks s z)).1.W.length) (hN torn (lyR a i (cks s z)).1.size)).flatten = _
    rw [e, hp2]
end Go.Proofs.YtmbecppmkglmhaaDoor
