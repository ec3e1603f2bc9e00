/-
  The walks and the laws that the statement leans on, part 19.
-/
import Derived.Test.YteoajodoejoccaaP10
import Derived.Test.YteoajodoejoccaaP15
import Derived.Test.YteoajodoejoccaaP18
namespace Go.Proofs.Yteoajodoejoccaa
open Go
set_option linter.unusedVariables false
set_option linter.unusedSimpArgs false
theorem flat_set {s : Nat} {L : List (List Int)} {i : Nat} {x : List Int} (hL : ∀ z ∈ L, z.length = s) (hi : i < L.length) : (L.set i x).flatten = L.flatten.take (i * s) ++ (x ++ L.flatten.drop (i * s + s)) := by
  have hy : L[i]? = some (L.getD i []) := by rw [List.getD_eq_getElem?_getD, List.getElem?_eq_getElem hi]; rfl
  obtain ⟨y, hyy⟩ : ∃ y, y = L.getD i [] := ⟨_, rfl⟩
  rw [← hyy] at hy
  obtain ⟨A, B, h1, h2, h3⟩ := flat_split L i y hL hy
  have ly : y.length = s := hL y (List.mem_of_getElem? hy)
  rw [h3, h2, Nat.mul_comm i s, ← h1, List.take_left]
  have e : A.length + s = A.length + y.length := by rw [ly]
  rw [e, ← List.append_assoc A y B, ← List.length_append, List.drop_left]
theorem flat_get {s : Nat} {L : List (List Int)} {i : Nat} (hL : ∀ z ∈ L, z.length = s) (hi : i < L.length) : L.getD i [] = (L.flatten.drop (i * s)).take s := by
  have hy : L[i]? = some (L.getD i []) := by rw [List.getD_eq_getElem?_getD, List.getElem?_eq_getElem hi]; rfl
  obtain ⟨y, hyy⟩ : ∃ y, y = L.getD i [] := ⟨_, rfl⟩
  rw [← hyy] at hy ⊢
  obtain ⟨A, B, h1, h2, -⟩ := flat_split L i y hL hy
  have ly : y.length = s := hL y (List.mem_of_getElem? hy)
  rw [h2, Nat.mul_comm i s, ← h1, List.drop_left, ← ly, List.take_left]
def chs (s : Nat) : Nat → List Int → List (List Int)
  | 0, _ => []
  | k + 1, z => if z = [] then [] else z.take s :: chs s k (z.drop s)
theorem chs_le {s : Nat} : ∀ (k : Nat) (z : List Int), ∀ c ∈ chs s k z, c.length ≤ s
  | 0, z, c, h => by cases h
  | k + 1, z, c, h => by
    unfold chs at h
    split at h
    · cases h
    · rcases List.mem_cons.1 h with rfl | h
      · rw [List.length_take]; omega
      · exact chs_le k _ c h
theorem chs_fuel {s : Nat} (hs : 1 ≤ s) : ∀ (k j : Nat) (z : List Int), z.length ≤ k → z.length ≤ j → chs s k z = chs s j z := by
  intro k
  induction k with
  | zero =>
    intro j z h1 h2
    have : z = [] := List.eq_nil_of_length_eq_zero (by omega)
    subst this
    cases j <;> simp [chs]
  | succ k ih =>
    intro j z h1 h2
    by_cases hz : z = []
    · subst hz; cases j <;> simp [chs]
    · have : z.length ≠ 0 := fun h => hz (List.eq_nil_of_length_eq_zero h)
      obtain ⟨m, rfl⟩ : ∃ m, j = m + 1 := ⟨j - 1, by omega⟩
      simp only [chs, if_neg hz]
      rw [ih m (z.drop s) (by simp only [List.length_drop]; omega) (by simp only [List.length_drop]; omega)]
abbrev cks (s : Nat) (z : List Int) : List (List Int) := chs s z.length z
theorem cks_nil (s : Nat) : cks s [] = [] := rfl
theorem cks_cons {s : Nat} {z : List Int} (hs : 1 ≤ s) (hz : z ≠ []) : cks s z = z.take s :: cks s (z.drop s) := by
  unfold cks
  have : z.length ≠ 0 := fun h => hz (List.eq_nil_of_length_eq_zero h)
  obtain ⟨m, hm⟩ : ∃ m, z.length = m + 1 := ⟨z.length - 1, by omega⟩
  rw [hm]
  simp only [chs, if_neg hz]
  rw [chs_fuel hs m _ (z.drop s) (by simp only [List.length_drop]; omega) (Nat.le_refl _)]
theorem cks_pads {s : Nat} (hs : 1 ≤ s) : ∀ (n : Nat) (z : List Int), z.length ≤ n → ((cks s z).map (pad s)).flatten = z ++ List.replicate ((cks s z).length * s - z.length) 0 ∧ z.length ≤ (cks s z).length * s ∧ (cks s z).length * s < z.length + s := by
  intro n
  induction n with
  | zero =>
    intro z h
    have : z = [] := List.eq_nil_of_length_eq_zero (by omega)
    subst this
    rw [cks_nil]; simp; omega
  | succ n ih =>
    intro z h
    by_cases hz : z = []
    · subst hz; rw [cks_nil]; simp; omega
    · have h0 : z.length ≠ 0 := fun h => hz (List.eq_nil_of_length_eq_zero h)
      obtain ⟨i1, i2, i3⟩ := ih (z.drop s) (by simp only [List.length_drop]; omega)
      rw [cks_cons hs hz]
      simp only [List.map_cons, List.flatten_cons, List.length_cons]
      rw [i1]
      simp only [List.length_drop] at i2 i3
      rw [Nat.add_mul, Nat.one_mul]
      obtain ⟨q, hq⟩ : ∃ q, q = (cks s (z.drop s)).length * s := ⟨_, rfl⟩
      rw [← hq] at i2 i3 ⊢
      by_cases hl : s ≤ z.length
      · refine ⟨?_, by omega, by omega⟩
        have e1 : pad s (z.take s) = z.take s := by unfold pad; simp; omega
        rw [e1, ← List.append_assoc, List.take_append_drop]
        congr 2
        simp only [List.length_drop]; omega
      · have e1 : z.take s = z := List.take_of_length_le (by omega)
        have e2 : z.drop s = [] := List.drop_of_length_le (by omega)
        have e3 : q = 0 := by rw [hq, e2, cks_nil]; simp
        refine ⟨?_, by omega, by omega⟩
        rw [e1, e2, e3]
        unfold pad
        simp
theorem cks_len_le {s k : Nat} {z : List Int} (hs : 1 ≤ s) (h : z.length ≤ k * s) : (cks s z).length ≤ k := by
  obtain ⟨-, h2, h3⟩ := cks_pads hs _ z (Nat.le_refl _)
  have : (cks s z).length * s < (k + 1) * s := by rw [Nat.add_mul, Nat.one_mul]; omega
  have := Nat.lt_of_mul_lt_mul_right this
  omega
def wrs (s : Nat) : Nat → List (List Int) → List (Nat × List Int)
  | _, [] => []
  | i, z :: r => (i, pad s z) :: wrs s (i + 1) r
def put {α : Type} (T : List α) (q : Nat) (x : List α) : List α := T.take q ++ (x ++ T.drop (q + x.length))
theorem pads_len {s : Nat} : ∀ {cs : List (List Int)}, (∀ c ∈ cs, c.length ≤ s) → ((cs.map (pad s)).flatten).length = cs.length * s
  | [], _ => by simp
  | c :: r, h => by
    simp only [List.map_cons, List.flatten_cons, List.length_append, List.length_cons, pads_len fun x hx => h x (List.mem_cons_of_mem _ hx), pad_len (h c (List.mem_cons_self ..)), Nat.add_mul, Nat.one_mul]
    omega
theorem lay_flat {s : Nat} : ∀ (cs : List (List Int)) (L : List (List Int)) (i : Nat), (∀ z ∈ L, z.length = s) → (∀ c ∈ cs, c.length ≤ s) → i + cs.length ≤ L.length →
    (layW L (wrs s i cs)).flatten = put L.flatten (i * s) ((cs.map (pad s)).flatten)
  | [], L, i, hL, hc, hi => by
    simp only [wrs, layW, put, List.map_nil, List.flatten_nil, List.length_nil, Nat.add_zero, List.nil_append, List.take_append_drop]
  | c :: r, L, i, hL, hc, hi => by
    have hp := pad_len (hc c (List.mem_cons_self ..))
    simp only [List.length_cons] at hi
    have ih := lay_flat r (L.set i (pad s c)) (i + 1) (set_rows hL hp) (fun x hx => hc x (List.mem_cons_of_mem _ hx)) (by rw [List.length_set]; omega)
    have hr := pads_len (s := s) (cs := r) fun x hx => hc x (List.mem_cons_of_mem _ hx)
    have hf := flat_len L hL
    have hil : i * s + s + r.length * s ≤ L.length * s := by
      have := Nat.mul_le_mul_right s hi
      simp only [Nat.add_mul, Nat.one_mul] at this; omega
    simp only [wrs, layW]
    rw [ih, flat_set hL (by omega)]
    unfold put
    simp only [List.map_cons, List.flatten_cons, List.length_append, hp, hr]
    rw [Nat.add_mul, Nat.one_mul]
    have l1 : (L.flatten.take (i * s)).length = i * s := by rw [List.length_take, hf]; omega
    have e1 : (L.flatten.take (i * s) ++ (pad s c ++ L.flatten.drop (i * s + s))).take (i * s + s) = L.flatten.take (i * s) ++ pad s c := by
      rw [← List.append_assoc, List.take_append_of_le_length (by rw [List.length_append, l1, hp]; omega), List.take_of_length_le (by rw [List.length_append, l1, hp]; omega)]
    have e2 : (L.flatten.take (i * s) ++ (pad s c ++ L.flatten.drop (i * s + s))).drop (i * s + s + r.length * s) = L.flatten.drop (i * s + (s + r.length * s)) := by
      rw [← List.append_assoc, List.drop_append, List.drop_of_length_le (by rw [List.length_append, l1, hp]; omega), List.nil_append, List.length_append, l1, hp, List.drop_drop]
      congr 1; omega
    rw [e1, e2]
    simp only [List.append_assoc]
theorem put_take {α : Type} {T x : List α} {q p : Nat} (h : p ≤ q) (hq : q ≤ T.length) : (put T q x).take p = T.take p := by
  unfold put
  rw [List.take_append_of_le_length (by rw [List.length_take]; omega), List.take_take, Nat.min_eq_left h]
theorem put_drop {α : Type} {T x : List α} {q p : Nat} (h : q + x.length ≤ p) (hq : q ≤ T.length) : (put T q x).drop p = T.drop p := by
  unfold put
  have l1 : (T.take q).length = q := by rw [List.length_take]; omega
  rw [← List.append_assoc, List.drop_append, List.drop_of_length_le (by rw [List.length_append, l1]; omega), List.nil_append, List.length_append, l1, List.drop_drop]
  congr 1; omega
theorem put_len {α : Type} {T x : List α} {q : Nat} (h : q + x.length ≤ T.length) : (put T q x).length = T.length := by
  unfold put
  simp only [List.length_append, List.length_take, List.length_drop]; omega
theorem cr_flat {s t : Nat} (ht : t ≤ s) : ∀ (cs : List (List Int)) (L : List (List Int)) (i k : Nat), (∀ z ∈ L, z.length = s) → (∀ c ∈ cs, c.length ≤ s) → i + cs.length ≤ L.length →
    ∃ p, i * s ≤ p ∧ (crL L (wrs s i cs) k t).flatten = mix (put L.flatten (i * s) ((cs.map (pad s)).flatten)) L.flatten p
  | [], L, i, k, hL, hc, hi => ⟨i * s, Nat.le_refl _, by
      have hf := flat_len L hL
      have hil : i * s ≤ L.length * s := Nat.mul_le_mul_right s (by simpa using hi)
      have e : crL L (wrs s i []) k t = L := by unfold crL; simp [wrs, layW]
      rw [e]
      unfold mix
      rw [put_take (Nat.le_refl _) (by omega), List.take_append_drop]⟩
  | c :: r, L, i, 0, hL, hc, hi => by
    have hp := pad_len (hc c (List.mem_cons_self ..))
    have hf := flat_len L hL
    have hr := pads_len hc
    simp only [List.length_cons] at hi hr
    have hil : i * s + s + r.length * s ≤ L.length * s := by
      have := Nat.mul_le_mul_right s hi
      simp only [Nat.add_mul, Nat.one_mul] at this; omega
    refine ⟨i * s + t, by omega, ?_⟩
    have e : crL L (wrs s i (c :: r)) 0 t = L.set i ((pad s c).take t ++ (L.getD i []).drop t) := by unfold crL; simp [wrs, layW]
    rw [e, flat_set hL (by omega), flat_get hL (by omega)]
    unfold mix put
    have l1 : (L.flatten.take (i * s)).length = i * s := by rw [List.length_take, hf]; omega
    rw [List.take_append, l1, List.take_of_length_le (l := L.flatten.take (i * s)) (by omega), Nat.add_sub_cancel_left]
    simp only [List.map_cons, List.flatten_cons]
    rw [List.append_assoc (pad s c), List.take_append_of_le_length (by omega)]
    simp only [List.append_assoc]
    congr 2
    rw [List.drop_take, List.drop_drop]
    have e2 : L.flatten.drop (i * s + s) = (L.flatten.drop (i * s + t)).drop (s - t) := by rw [List.drop_drop]; congr 1; omega
    rw [e2, List.take_append_drop]
  | c :: r, L, i, k + 1, hL, hc, hi => by
    have hp := pad_len (hc c (List.mem_cons_self ..))
    have hf := flat_len L hL
    have hr := pads_len hc
    simp only [List.length_cons] at hi hr
    have hil : i * s + s + r.length * s ≤ L.length * s := by
      have := Nat.mul_le_mul_right s hi
      simp only [Nat.add_mul, Nat.one_mul] at this; omega
    have e : crL L (wrs s i (c :: r)) (k + 1) t = crL (L.set i (pad s c)) (wrs s (i + 1) r) k t := by unfold crL; simp [wrs, layW]
    obtain ⟨p, hp1, hp2⟩ := cr_flat ht r (L.set i (pad s c)) (i + 1) k (set_rows hL hp) (fun x hx => hc x (List.mem_cons_of_mem _ hx)) (by rw [List.length_set]; omega)
    rw [Nat.add_mul, Nat.one_mul] at hp1
    have hcr := fun x hx => hc x (List.mem_cons_of_mem _ hx)
    have l1 := lay_flat (c :: r) L i hL hc (by simpa using hi)
    have l2 := lay_flat r (L.set i (pad s c)) (i + 1) (set_rows hL hp) hcr (by rw [List.length_set]; omega)
    simp only [wrs, layW] at l1
    rw [l1] at l2
    refine ⟨p, by omega, ?_⟩
    rw [e, hp2, ← l2]
    unfold mix
    congr 1
    have e3 : (L.set i (pad s c)).flatten = put L.flatten (i * s) (pad s c) := by rw [flat_set hL (by omega)]; unfold put; rw [hp]
    rw [e3, put_drop (by omega) (by omega)]
def lyR : DA → Nat → List (List Int) → DA × Int
  | a, _, [] => (syA a, syC a)
  | a, i, z :: r => if wrC a i z.length = 0 then lyR (wrA a i z) (i + 1) r else (wrA a i z, wrC a i z.length)
theorem lyR_ok : ∀ (cs : List (List Int)) (a : DA) (i c : Nat), AOk c a → AOk (c + cs.length + 1) (lyR a i cs).1
  | [], a, i, c, h => syA_ok h
  | z :: r, a, i, c, h => by
    unfold lyR
    have h1 := wrA_ok h i z
    split
    · have := lyR_ok r (wrA a i z) (i + 1) (c + 1) h1
      exact this.le (by simp only [List.length_cons]; omega)
    · exact h1.le (by simp only [List.length_cons]; omega)
structure Stl (s n : Nat) (T : List Int) (a : DA) : Prop where
  s : a.size = s
  n : a.n = n
  W : a.W = []
  LS : a.L = a.S
  dk : a.dk = false
  T : a.S.flatten = T
structure Drk (s n q : Nat) (N T : List Int) (a : DA) : Prop where
  dk : a.dk = true
  cr : ∀ keep torn : Int, ∃ p, q ≤ p ∧ Stl s n (mix N T p) (crA a keep torn)
theorem writeC {a : DA} {i : Nat} {k : Nat} (hd : a.dk = false) (hi : i < a.n) (hk : k ≤ a.size) : mayA a i k = 0 := by
  unfold mayA mayC
  rw [hd, if_neg (by simp), if_neg (by omega)]
theorem lyR_raw : ∀ (cs : List (List Int)) (a : DA) (i : Nat), a.dk = false → -1 ≤ a.f → (∀ c ∈ cs, c.length ≤ a.size) → i + cs.length ≤ a.n → 1 ≤ a.n →
    ((lyR a i cs).2 = 0 ∧ (lyR a i cs).1.size = a.size ∧ (lyR a i cs).1.n = a.n ∧ (lyR a i cs).1.dk = false ∧ (lyR a i cs).1.W = [] ∧ (lyR a i cs).1.S = layW a.S (wrs a.size i cs) ∧ (lyR a i cs).1.L = layW a.S (wrs a.size i cs) ∧
        (lyR a i cs).1.de = a.de + cs.length + 1 ∧ (a.f = -1 → (lyR a i cs).1.f = -1)) ∨
    ((lyR a i cs).2 = 12 ∧ (lyR a i cs).1.size = a.size ∧ (lyR a i cs).1.n = a.n ∧ (lyR a i cs).1.dk = true ∧ a.f ≠ -1 ∧ (lyR a i cs).1.L = a.L ∧ ∃ j, j ≤ cs.length ∧ (lyR a i cs).1.W = a.W ++ (wrs a.size i cs).take j)
  | [], a, i, hd, hf, hc, hi, hn => by
    have h1 : ¬ a.dk = true := by rw [hd]; simp
    unfold lyR syA syC
    by_cases h2 : a.f = 0
    · right
      rw [if_neg h1, if_neg h1, if_pos h2, if_pos h2]
      exact ⟨rfl, rfl, rfl, rfl, by omega, rfl, 0, Nat.le_refl _, by simp⟩
    · left
      rw [if_neg h1, if_neg h1, if_neg h2, if_neg h2]
      refine ⟨rfl, rfl, rfl, hd, rfl, rfl, rfl, rfl, fun h => ?_⟩
      simp only [fuseN]; rw [if_pos (by omega)]
  | z :: r, a, i, hd, hf, hc, hi, hn => by
    simp only [List.length_cons] at hi
    have hm := writeC (a := a) (i := i) (k := z.length) hd (by omega) (hc z (List.mem_cons_self ..))
    by_cases h2 : a.f = 0
    · right
      have e1 : wrC a i z.length = 12 := by unfold wrC; rw [if_neg (by omega), if_pos h2]
      have e2 : wrA a i z = { a with dk := true } := by unfold wrA; rw [if_neg (by omega), if_pos h2]
      unfold lyR
      rw [if_neg (by omega), e1, e2]
      exact ⟨rfl, rfl, rfl, rfl, by omega, rfl, 0, Nat.zero_le _, by simp⟩
    · have e1 : wrC a i z.length = 0 := by unfold wrC; rw [if_neg (by omega), if_neg h2]
      have e2 : wrA a i z = { a with f := fuseN a.f, de := a.de + 1, W := a.W ++ [(i, pad a.size z)], S := a.S.set i (pad a.size z) } := by
        unfold wrA; rw [if_neg (by omega), if_neg h2]; rfl
      have hf2 := fuseN_le hf
      have ih := lyR_raw r (wrA a i z) (i + 1) (by rw [e2]; exact hd) (by rw [e2]; exact hf2.1) (by rw [e2]; exact fun x hx => hc x (List.mem_cons_of_mem _ hx)) (by rw [e2]; simp only; omega) (by rw [e2]; exact hn)
      have el : lyR a i (z :: r) = lyR (wrA a i z) (i + 1) r := by rw [lyR, if_pos e1]
      rw [el]
      rcases ih with ⟨i1, i2, i3, i4, i5, i6, i7, i8, i9⟩ | ⟨i1, i2, i3, i4, i5, i6, j, j1, j2⟩
      · left
        rw [e2] at i2 i3 i6 i7 i8 i9
        simp only at i2 i3 i6 i7 i8 i9
        refine ⟨i1, by rw [e2]; exact i2, by rw [e2]; exact i3, i4, i5, ?_, ?_, ?_, fun h => ?_⟩
        · rw [e2]; simp only [wrs, layW]; exact i6
        · rw [e2]; simp only [wrs, layW]; exact i7
        · rw [e2]; simp only [List.length_cons]; omega
        · rw [e2]; exact i9 (by unfold fuseN; rw [if_pos (by omega)])
      · right
        rw [e2] at i2 i3 i5 i6 j2
        simp only at i2 i3 i5 i6 j2
        refine ⟨i1, by rw [e2]; exact i2, by rw [e2]; exact i3, i4, ?_, by rw [e2]; exact i6, j + 1, by simp only [List.length_cons]; omega, ?_⟩
        · intro h; exact i5 (by unfold fuseN; rw [if_pos (by omega)])
        · rw [e2]; simp only [wrs, List.take_succ_cons]; rw [j2]; simp
theorem crL_take {t : Nat} (L : List (List Int)) (W : List (Nat × List Int)) (j k : Nat) (hL : ∀ w ∈ W, w.1 < L.length) : ∃ k' t', t' ≤ t ∧ crL L (W.take j) k t = crL L W k' t' := by
  by_cases h : k < j
  · refine ⟨k, t, Nat.le_refl _, ?_⟩
    unfold crL
    rw [List.getElem?_take_of_lt h, List.take_take, Nat.min_eq_left (by omega)]
  · refine ⟨j, 0, Nat.zero_le _, ?_⟩
    unfold crL
    rw [List.getElem?_take, if_neg h]
    simp only
    rw [List.take_take, Nat.min_eq_right (by omega)]
    cases hw : W[j]? with
    | none => rfl
    | some w =>
      have hm := hL w (List.mem_of_getElem? hw)
      simp only [List.take_zero, List.nil_append, List.drop_zero]
      have hlt : w.1 < (layW L (W.take j)).length := by rw [layW_len]; exact hm
      rw [List.getD_eq_getElem?_getD, List.getElem?_eq_getElem hlt]
      exact (List.set_getElem_self hlt).symm
theorem wrs_lt {s : Nat} : ∀ {cs : List (List Int)} {i n : Nat}, i + cs.length ≤ n → ∀ w ∈ wrs s i cs, w.1 < n
  | [], i, n, h, w, hw => by cases hw
  | z :: r, i, n, h, w, hw => by
    simp only [List.length_cons] at h
    rcases List.mem_cons.1 hw with rfl | hw
    · simp only; omega
    · exact wrs_lt (cs := r) (i := i + 1) (by omega) w hw
theorem lyR_spec {c s n : Nat} {T : List Int} {a : DA} (hA : AOk c a) (hS : Stl s n T a) (i : Nat) (z : List Int) (hi : i + (cks s z).length ≤ n) :
    ((lyR a i (cks s z)).2 = 0 ∧ Stl s n (put T (i * s) (z ++ List.replicate ((cks s z).length * s - z.length) 0)) (lyR a i (cks s z)).1 ∧ (a.f = -1 → (lyR a i (cks s z)).1.f = -1)) ∨
    ((lyR a i (cks s z)).2 = 12 ∧ a.f ≠ -1 ∧ Drk s n (i * s) (put T (i * s) (z ++ List.replicate ((cks s z).length * s - z.length) 0)) T (lyR a i (cks s z)).1) := by
  have hs : a.size = s := hS.s
  have hn : a.n = n := hS.n
  have hs1 : 1 ≤ s := by have := hA.s1; omega
  have hc : ∀ x ∈ cks s z, x.length ≤ s := chs_le _ _
  have hr : ∀ x ∈ a.S, x.length = s := by rw [← hs]; exact hA.Sr
  have hl : a.S.length = n := by rw [← hn]; exact hA.Sl
  have hraw := lyR_raw (cks s z) a i hS.dk hA.f1 (by rw [hs]; exact hc) (by rw [hn]; exact hi) hA.n1
  obtain ⟨p1, -, -⟩ := cks_pads hs1 _ z (Nat.le_refl _)
  rw [← p1, ← hS.T]
  rcases hraw with ⟨h1, h2, h3, h4, h5, h6, h7, h8, h9⟩ | ⟨h1, h2, h3, h4, h5, h6, j, h7, h8⟩
  · left
    refine ⟨h1, ⟨h2.trans hs, h3.trans hn, h5, h7.trans h6.symm, h4, ?_⟩, h9⟩
    rw [h6, hs]
    exact lay_flat _ _ _ hr hc (by omega)
  · right
    refine ⟨h1, h5, h4, fun keep torn => ?_⟩
    rw [hS.W, List.nil_append, hs] at h8
    obtain ⟨k', t', t1, t2⟩ := crL_take (t := hN torn s) a.S (wrs s i (cks s z)) j (hN keep (lyR a i (cks s z)).1.W.length) (wrs_lt (by omega))
    obtain ⟨p, hp1, hp2⟩ := cr_flat (Nat.le_trans t1 (hN_le torn s)) (cks s z) a.S i k' hr hc (by omega)
    refine ⟨p, hp1, ?_⟩
    have e : crL (lyR a i (cks s z)).1.L (lyR a i (cks s z)).1.W (hN keep (lyR a i (cks s z)).1.W.length) (hN torn (lyR a i (cks s z)).1.size) = crL a.S (wrs s i (cks s z)) k' t' := by
      rw [h6, hS.LS, h2, hs, ← t2, ← h8]
    refine ⟨h2.trans hs, h3.trans hn, rfl, rfl, rfl, ?_⟩
    show (crL (lyR a i (cks s z)).1.L (lyR a i (cks s z)).1.W (hN keep (lyR a i (cks s z)).1.W.length) (hN torn (lyR a i (cks s z)).1.size)).flatten = _
    rw [e, hp2]
theorem ub_map (x : Bs) : ub x = x.map (fun b => (b.toNat : Int)) := rfl
theorem ub_zrs (n : Nat) : ub (zrs n) = List.replicate n 0 := by simp [ub, zrs]
theorem ub_put (T x : Bs) (q : Nat) : put (ub T) q (ub x) = ub (put T q x) := by
  simp only [put, ub, List.map_append, List.map_take, List.map_drop, List.length_map]
theorem ub_mix (N T : Bs) (p : Nat) : mix (ub N) (ub T) p = ub (mix N T p) := by
  simp only [mix, ub, List.map_append, List.map_take, List.map_drop]
theorem put_mid {α : Type} (P R Q x : List α) {q : Nat} (h : q + x.length ≤ R.length) : put (P ++ (R ++ Q)) (P.length + q) x = P ++ (put R q x ++ Q) := by
  unfold put
  rw [List.take_length_add_append, Nat.add_assoc, List.drop_length_add_append, List.take_append_of_le_length (by omega), List.drop_append_of_le_length (by omega)]
  simp only [List.append_assoc]
theorem mix_mid {α : Type} {P N R Q : List α} {p : Nat} (hl : N.length = R.length) (hp : P.length ≤ p) : mix (P ++ (N ++ Q)) (P ++ (R ++ Q)) p = P ++ (mix N R (p - P.length) ++ Q) := by
  rw [mix_high hp]
  congr 1
  unfold mix
  rw [List.take_append, List.drop_append, hl, List.append_assoc, List.append_assoc]
  congr 1
  by_cases h : p - P.length ≤ R.length
  · rw [Nat.sub_eq_zero_of_le h, List.take_zero, List.drop_zero, List.nil_append]
  · rw [List.drop_of_length_le (by omega), List.nil_append, List.nil_append, List.take_append_drop]
structure Rg (s n f m : Nat) (P Q R : Bs) (a : DA) : Prop where
  st : Stl s n (ub (P ++ (R ++ Q))) a
  lP : P.length = f * s
  lR : R.length = m * s
structure Dg (s n f m : Nat) (P Q N R : Bs) (a : DA) : Prop where
  dk : a.dk = true
  cr : ∀ keep torn : Int, ∃ p, Rg s n f m P Q (mix N R p) (crA a keep torn)
theorem Rg.all {c s n f m : Nat} {P Q R : Bs} {a : DA} (hA : AOk c a) (h : Rg s n f m P Q R a) : P.length + R.length + Q.length = n * s := by
  have h1 := flat_len (size := s) a.S (by rw [← h.st.s]; exact hA.Sr)
  rw [h.st.T, hA.Sl, h.st.n, ub_len] at h1
  simp only [List.length_append] at h1
  omega
theorem lay_rg {c s n f m : Nat} {P Q R : Bs} {a : DA} (hA : AOk c a) (h : Rg s n f m P Q R a) (hfm : f + m ≤ n) (k : Nat) (z : Bs) (hz : k * s + z.length ≤ m * s) (hk : k ≤ m) (i : Nat) (hi : i = f + k) :
    ∃ j, k * s + z.length + j ≤ m * s ∧
    (((lyR a i (cks s (ub z))).2 = 0 ∧ Rg s n f m P Q (put R (k * s) (z ++ zrs j)) (lyR a i (cks s (ub z))).1 ∧ (a.f = -1 → (lyR a i (cks s (ub z))).1.f = -1)) ∨
     ((lyR a i (cks s (ub z))).2 = 12 ∧ a.f ≠ -1 ∧ Dg s n f m P Q (put R (k * s) (z ++ zrs j)) R (lyR a i (cks s (ub z))).1)) := by
  subst hi
  have hs1 : 1 ≤ s := by have := hA.s1; have := h.st.s; omega
  have hzl : (ub z).length ≤ (m - k) * s := by rw [ub_len, Nat.sub_mul]; omega
  have hK := cks_len_le hs1 hzl
  obtain ⟨-, p2, -⟩ := cks_pads hs1 _ (ub z) (Nat.le_refl _)
  have hsp := lyR_spec hA h.st (f + k) (ub z) (by omega)
  obtain ⟨K, hKe⟩ : ∃ K, K = (cks s (ub z)).length := ⟨_, rfl⟩
  rw [← hKe] at hsp hK p2
  rw [ub_len] at p2
  have hKm : k * s + K * s ≤ m * s := by rw [← Nat.add_mul]; exact Nat.mul_le_mul_right s (by omega)
  have hj : z.length + (K * s - z.length) = K * s := by omega
  refine ⟨K * s - z.length, by omega, ?_⟩
  have e1 : ub z ++ List.replicate (K * s - (ub z).length) 0 = ub (z ++ zrs (K * s - z.length)) := by rw [ub_append, ub_zrs, ub_len]
  have e2 : put (ub (P ++ (R ++ Q))) ((f + k) * s) (ub z ++ List.replicate (K * s - (ub z).length) 0) = ub (P ++ (put R (k * s) (z ++ zrs (K * s - z.length)) ++ Q)) := by
    rw [e1, ub_put, Nat.add_mul, ← h.lP, put_mid _ _ _ _ (by rw [h.lR]; simp only [List.length_append, zrs, List.length_replicate]; omega)]
  rw [e2] at hsp
  have lp : (put R (k * s) (z ++ zrs (K * s - z.length))).length = R.length := put_len (by rw [h.lR]; simp only [List.length_append, zrs, List.length_replicate]; omega)
  rcases hsp with ⟨s1, s2, s3⟩ | ⟨s1, s2, s3⟩
  · exact .inl ⟨s1, ⟨s2, h.lP, lp.trans h.lR⟩, s3⟩
  · refine .inr ⟨s1, s2, s3.dk, fun keep torn => ?_⟩
    obtain ⟨p, hp1, hp2⟩ := s3.cr keep torn
    rw [ub_mix, mix_mid lp (by rw [h.lP]; have := Nat.mul_le_mul_right s (Nat.le_add_right f k); omega)] at hp2
    exact ⟨p - P.length, hp2, h.lP, (mix_len lp _).trans h.lR⟩
theorem put_data (R F : Bs) (u s j : Nat) (hu : u + F.length + j ≤ R.length) : put R (u / s * s) (((R.take u).drop (u / s * s) ++ F) ++ zrs j) = R.take u ++ (F ++ zrs j ++ R.drop (u + F.length + j)) := by
  have hd := Nat.div_mul_le_self u s
  obtain ⟨q, hq⟩ : ∃ q, q = u / s * s := ⟨_, rfl⟩
  rw [← hq] at hd ⊢
  unfold put
  have l1 : ((R.take u).drop q).length = u - q := by simp only [List.length_drop, List.length_take]; omega
  have e1 : R.take q = (R.take u).take q := by rw [List.take_take, Nat.min_eq_left hd]
  have e2 : q + ((((R.take u).drop q ++ F) ++ zrs j)).length = u + F.length + j := by simp only [List.length_append, l1, zrs, List.length_replicate]; omega
  rw [e2, e1]
  simp only [List.append_assoc]
  rw [← List.append_assoc (List.take q (List.take u R)), List.take_append_drop]
theorem put_frame (L : List Bs) (b : Bs) (w s j : Nat) (hj : usd L + (b.length + 10) + j ≤ usd L + w) :
    put (frs L ++ zrs w) (usd L / s * s) ((((frs L ++ zrs w).take (usd L)).drop (usd L / s * s) ++ frameB b) ++ zrs j) = frs (L ++ [b]) ++ zrs (w - (b.length + 10)) := by
  have hl : (frs L ++ zrs w).length = usd L + w := by simp [usd, zrs]
  rw [put_data _ _ _ _ _ (by rw [hl, frame_len]; omega), frame_len]
  have e1 : (frs L ++ zrs w).take (usd L) = frs L := by unfold usd; rw [List.take_append_of_le_length (Nat.le_refl _), List.take_length]
  have e2 : (frs L ++ zrs w).drop (usd L + (b.length + 10) + j) = zrs (w - (b.length + 10) - j) := by
    rw [List.drop_append, List.drop_of_length_le (by unfold usd at *; omega), List.nil_append]
    simp only [zrs, List.drop_replicate]
    congr 1
    unfold usd; omega
  rw [e1, e2, frs_snoc]
  simp only [List.append_assoc]
  congr 2
  simp only [zrs, List.replicate_append_replicate]
  congr 1; omega
set_option linter.defProp false
def TFWlE :=
  And.intro (And.intro (And.intro tyc4 (And.intro zmb4 tyc5)) (And.intro zmb5 (And.intro tyc36 elt36))) (And.intro (And.intro mkz36 (And.intro apT36 elk36)) (And.intro (And.intro zmb36 Try.underlying4) (And.intro Try.underlying5 Try.underlying36)))
theorem Y1WlE {G R : Prop} (r : R) (h : R → G := by intro r; first | (apply WP.region; exact rvc_sound _ _ (Sm.out r)) | exact WP.drawK rfl mixed (by decide +kernel) (Sm.out r) | (apply WP.block; exact r) | (apply WP.skip; exact Yq r) | (apply WP.exit; exact Yq r) | (apply WP.ret; exact Sm.out r) | exact WP.cond rfl (fun _ => r) (fun hg => absurd hg (by decide)) | exact WP.cond rfl (fun hg => absurd hg (by decide)) (fun _ => r) | exact Rt.mk (And.intro (fun _ => Sm.out r) fun hg => absurd hg (by decide)) | exact Rt.mk (And.intro (fun hg => absurd hg (by decide)) fun _ => Sm.out r)) : G := h r
theorem YzWlE {G R : Prop} (r : R) (h : R → G := by intro r; first | (apply ExG.no; exact Sm.out r) | (apply Or.inl; apply ExG.no; exact Sm.out r) | exact Or.inl (And.intro (fun hg => absurd hg (by decide)) (ExG.no (Sm.out r)))) : G := h r
theorem YsWlE0 {P Q : Prop} (q : Q) (h : P = Q := by (try (conv => lhs; simp -dsimp only [ZK, rvc, capA, appA, litL, mkfv, drawF, headN, pureH, stp, dvc, calleeOf, gcall, pev, eff, newB, okd, og, ogs, ogo, ogp, slv, bltv, opd, litv, strip, one, both, putE, St.put, look, gdOf, gdv, picka, pickv, pickw, binv, bini, bins, binb, binp, binq, isSlT, bina, shp, eqCells, unv, convv, nilv, faddv, addp, idxav, idxp, load1, load1m, loadn, loadnm, loadv, hget, hset, hrep, hdel, slicev, slice3v, bnd, shift1, lenv, capv, IntKind.bits, extractv, fieldv, indexv, min2v, max2v, mkiv, tasv, tasz, cellsA, fillA, buildv, stC, oneC, rowMB, intsA, plN, appE, appZ, appC, appS, srcB, appNZ, appNC, VwL, srcC, srcZ, srcM, isBoolT, isPtrT, isSliceT, uOk, Value.oneCell', Nat.reducePow, Int.reducePow, Nat.reduceAdd, Nat.reduceMul, Nat.reduceSub, Nat.reduceLT, Nat.reduceLeDiff, Nat.reduceEqDiff, Nat.reduceBEq, Nat.reduceDiv, Nat.reduceMod, ↓reduceIte, reduceCtorEq, Int.reduceToNat, Int.reduceLT, Int.reduceLE, TFWlE, SeqQ, BlkQ, LoopQ, BodyQ, List.length_nil, FA.out, FR.out])) <;> exact rfl) : P := h.mpr q
theorem getD_mdl {pre post : List AV} {a b : AV} {i : Nat} (h : i ≠ pre.length) : (pre ++ a :: post).getD i .any = (pre ++ b :: post).getD i .any := by
  simp only [List.getD_eq_getElem?_getD]
  by_cases hlt : i < pre.length
  · rw [List.getElem?_append_left hlt, List.getElem?_append_left hlt]
  · rw [List.getElem?_append_right (by omega), List.getElem?_append_right (by omega)]
    obtain ⟨q, hq⟩ : ∃ q, i - pre.length = q + 1 := ⟨i - pre.length - 1, by omega⟩
    rw [hq, List.getElem?_cons_succ, List.getElem?_cons_succ]
theorem getD_atm {pre post : List AV} {a : AV} : (pre ++ a :: post).getD pre.length .any = a := by
  simp only [List.getD_eq_getElem?_getD]
  rw [List.getElem?_append_right (Nat.le_refl _), Nat.sub_self]; rfl
theorem arg_slz {f : Nat} {pre post : List AV} {k : IntKind} {zs : List Int} {T : Hp} {φ : AV → Hp → Prop}
    (h1 : 1 ≤ zs.length → ACt Try.prog f (pre ++ .slz k zs :: post) T φ) (h2 : zs = [] → ∀ cap, cap ≤ maxLen → ACt Try.prog f (pre ++ .lit (.slice none 0 cap) :: post) T φ)
    (h3 : zs = [] → ∀ ad cap, cap ≤ maxLen → ACt Try.prog f (pre ++ .lit (.slice (some ad) 0 cap) :: post) T φ) :
    ACt Try.prog f (pre ++ .slz k zs :: post) T φ := by
  by_cases hn1 : 1 ≤ zs.length
  · exact h1 hn1
  obtain rfl : zs = [] := List.eq_nil_of_length_eq_zero (by omega)
  intro cx vs hK hKT hw hs hv
  have h0 := hv pre.length (by simp)
  rw [getD_atm] at h0
  obtain ⟨a, cap, e, hm⟩ : ∃ a cap, Rep cx.w0 cx.I (vs.getD pre.length undef) (.lit (.slice a 0 cap)) ∧ cap ≤ maxLen := by
    generalize vs.getD pre.length undef = u at h0
    cases h0 with
    | slz a k zs cap hn hm h => exact ⟨a, cap, .lit _, hm⟩
  have hv' : ∀ i, i < (pre ++ .lit (.slice a 0 cap) :: post).length → Rep cx.w0 cx.I (vs.getD i undef) ((pre ++ .lit (.slice a 0 cap) :: post).getD i .any) := fun i hi => by
    by_cases hip : i = pre.length
    · subst hip; rw [getD_atm]; exact e
    · rw [getD_mdl hip]; exact hv i (by simpa using hi)
  have hs' : vs.size = (pre ++ .lit (.slice a 0 cap) :: post).length := by rw [hs]; simp
  cases a with
  | none => exact h2 rfl cap hm cx vs hK hKT hw hs' hv'
  | some ad => exact h3 rfl ad cap hm cx vs hK hKT hw hs' hv'
theorem rep_slz0 {w : World} {I : Nat → Prop} {v : Value} {a : Option Addr} {cap : Nat} {k : IntKind} (hm : cap ≤ maxLen) (h : Rep w I v (.lit (.slice a 0 cap))) : Rep w I v (.slz k []) := by
  have := h.lit_inv
  subst this
  exact .slz a k [] cap (Nat.zero_le _) hm (.inl rfl)
set_option maxRecDepth 20000 in
theorem bcl_ct (zs : List Int) (h2 : zs.length ≤ 1000000) : ACt Try.prog 40 [.slz .u8 zs] [] (Fn (.slz .u8 zs)) := by
  refine arg_slz (pre := []) (post := []) (fun h1 => ?_) (fun h cap hm => ?_) (fun h ad cap hm => ?_)
  · simp only [List.nil_append]
    have ht : zs.take zs.length = zs := List.take_length
    refine ACt.intro Try.func40 rfl (by kernel_rfl) (by simp [Try.ntmps40]) (fun cx => ?_)
    simp only [argE, Try.ntmps40, Try.results40]
    first | (have FRx := FR; clear FRx) | have FR := fr0S
    have FA := Sm.mk (And.intro TFWlE h1)
    repeat' first | (apply Sm.mk; refine Ys ?_) | refine WP.seq fun K hK => ?_ | (apply Ob.mk; exact Yo) | refine And.intro (Ob.out ?_) ?_ | refine Y1WlE ?_ | refine YzWlE ?_ | (refine WP.cond rfl (fun hc => ?_) (fun hc => ?_) <;> (try simp only [ZC, reduceCtorEq, ZD] at hc) <;> (try exact absurd hc (by decide)) <;> (try (exfalso; omega))) | refine Rt.mk (And.intro (fun hg => Sm.out ?_) fun hg => Sm.out ?_) | (refine Nu.mk ?_; first | (fail_if_success have := nb1); intro nb1 | (fail_if_success have := nb2); intro nb2 | (fail_if_success have := nb3); intro nb3 | (fail_if_success have := nb4); intro nb4 | (fail_if_success have := nb5); intro nb5 | (fail_if_success have := nb6); intro nb6 | intro nbz) | (apply Yfr; refine Yf FR fun hFRb FR => ?_) | refine Two.mk ?_ ?_ | (apply Yxc; exact Yx) | refine Cs.mk fun hcs => Sm.out ?_ | go_step | omega | (simp only [maxLen_eq]; omega) | exact trivial
    (refine OutQ.wk (Wk.freeze (nb2) (by simp only [ZK, rvc, capA, appA, litL, mkfv, drawF, headN, pureH, stp, dvc, calleeOf, gcall, pev, eff, newB, okd, og, ogs, ogo, ogp, slv, bltv, opd, litv, strip, one, both, putE, St.put, look, gdOf, gdv, picka, pickv, pickw, binv, bini, bins, binb, binp, binq, isSlT, bina, shp, eqCells, unv, convv, nilv, faddv, addp, idxav, idxp, load1, load1m, loadn, loadnm, loadv, hget, hset, hrep, hdel, slicev, slice3v, bnd, shift1, lenv, capv, IntKind.bits, extractv, fieldv, indexv, min2v, max2v, mkiv, tasv, tasz, cellsA, fillA, buildv, stC, oneC, rowMB, intsA, plN, appE, appZ, appC, appS, srcB, appNZ, appNC, VwL, srcC, srcZ, srcM, isBoolT, isPtrT, isSliceT, uOk, Value.oneCell', Nat.reducePow, Int.reducePow, Nat.reduceAdd, Nat.reduceMul, Nat.reduceSub, Nat.reduceLT, Nat.reduceLeDiff, Nat.reduceEqDiff, Nat.reduceBEq, Nat.reduceDiv, Nat.reduceMod, ↓reduceIte, reduceCtorEq, Int.reduceToNat, Int.reduceLT, Int.reduceLE, TFWlE, SeqQ, BlkQ, LoopQ, BodyQ, ht, FR.out]; first | done | rfl)) ?_; simp only [frzE, frz, ZK, rvc, capA, appA, litL, mkfv, drawF, headN, pureH, stp, dvc, calleeOf, gcall, pev, eff, newB, okd, og, ogs, ogo, ogp, slv, bltv, opd, litv, strip, one, both, putE, St.put, look, gdOf, gdv, picka, pickv, pickw, binv, bini, bins, binb, binp, binq, isSlT, bina, shp, eqCells, unv, convv, nilv, faddv, addp, idxav, idxp, load1, load1m, loadn, loadnm, loadv, hget, hset, hrep, hdel, slicev, slice3v, bnd, shift1, lenv, capv, IntKind.bits, extractv, fieldv, indexv, min2v, max2v, mkiv, tasv, tasz, cellsA, fillA, buildv, stC, oneC, rowMB, intsA, plN, appE, appZ, appC, appS, srcB, appNZ, appNC, VwL, srcC, srcZ, srcM, isBoolT, isPtrT, isSliceT, uOk, Value.oneCell', Nat.reducePow, Int.reducePow, Nat.reduceAdd, Nat.reduceMul, Nat.reduceSub, Nat.reduceLT, Nat.reduceLeDiff, Nat.reduceEqDiff, Nat.reduceBEq, Nat.reduceDiv, Nat.reduceMod, ↓reduceIte, reduceCtorEq, Int.reduceToNat, Int.reduceLT, Int.reduceLE, TFWlE, SeqQ, BlkQ, LoopQ, BodyQ, ht, FR.out])
    (have FA := Sm.mk (And.intro ht FA.out); refine Yg ?_; try exact trivial)
  · subst h
    have k : (none : Option Addr).isNone = true := rfl
    simp only [List.nil_append]
    refine ACt.intro Try.func40 rfl (by kernel_rfl) (by simp [Try.ntmps40]) (fun cx => ?_)
    simp only [argE, Try.ntmps40, Try.results40]
    first | (have FRx := FR; clear FRx) | have FR := fr0S
    have FA := Sm.mk (And.intro TFWlE k)
    repeat' first | (apply Sm.mk; refine Ys ?_) | refine WP.seq fun K hK => ?_ | (apply Ob.mk; exact Yo) | refine And.intro (Ob.out ?_) ?_ | refine Y1WlE ?_ | refine YzWlE ?_ | (refine WP.cond rfl (fun hc => ?_) (fun hc => ?_) <;> (try simp only [ZC, reduceCtorEq, ZD] at hc) <;> (try exact absurd hc (by decide)) <;> (try (exfalso; omega))) | refine Rt.mk (And.intro (fun hg => Sm.out ?_) fun hg => Sm.out ?_) | (refine Nu.mk ?_; first | (fail_if_success have := nb1); intro nb1 | (fail_if_success have := nb2); intro nb2 | (fail_if_success have := nb3); intro nb3 | (fail_if_success have := nb4); intro nb4 | (fail_if_success have := nb5); intro nb5 | (fail_if_success have := nb6); intro nb6 | intro nbz) | (apply Yfr; refine Yf FR fun hFRb FR => ?_) | refine Two.mk ?_ ?_ | (apply Yxc; exact Yx) | refine Cs.mk fun hcs => Sm.out ?_ | go_step | omega | (simp only [maxLen_eq]; omega) | exact trivial
    (refine OutQ.wk (Wk.cons (i := 2) (by simp only [look, ↓reduceIte, Nat.reduceEqDiff]; first | done | rfl) (fun w I v h => Rep.nilz (k := .u8) h)) ?_)
    (refine Yg ?_; try exact trivial)
  · subst h
    have k : (some ad).isNone = false := rfl
    simp only [List.nil_append]
    refine ACt.intro Try.func40 rfl (by kernel_rfl) (by simp [Try.ntmps40]) (fun cx => ?_)
    simp only [argE, Try.ntmps40, Try.results40]
    first | (have FRx := FR; clear FRx) | have FR := fr0S
    have FA := Sm.mk (And.intro TFWlE k)
    repeat' first | (apply Sm.mk; refine Ys ?_) | refine WP.seq fun K hK => ?_ | (apply Ob.mk; exact Yo) | refine And.intro (Ob.out ?_) ?_ | ((fail_if_success (show WP _ _ _ (.region 3 _ _) _ _)); refine Y1WlE ?_) | refine YzWlE ?_ | (refine WP.cond rfl (fun hc => ?_) (fun hc => ?_) <;> (try simp only [ZC, reduceCtorEq, ZD] at hc) <;> (try exact absurd hc (by decide)) <;> (try (exfalso; omega))) | refine Rt.mk (And.intro (fun hg => Sm.out ?_) fun hg => Sm.out ?_) | (refine Nu.mk ?_; first | (fail_if_success have := nb1); intro nb1 | (fail_if_success have := nb2); intro nb2 | (fail_if_success have := nb3); intro nb3 | (fail_if_success have := nb4); intro nb4 | (fail_if_success have := nb5); intro nb5 | (fail_if_success have := nb6); intro nb6 | intro nbz) | (apply Yfr; refine Yf FR fun hFRb FR => ?_) | refine Two.mk ?_ ?_ | (apply Yxc; exact Yx) | refine Cs.mk fun hcs => Sm.out ?_ | go_step | omega | (simp only [maxLen_eq]; omega) | exact trivial
    refine WP.wk (Wk.cons (i := 0) (by simp only [look, ↓reduceIte, Nat.reduceEqDiff]; rfl) (fun w I v h => rep_slz0 (k := .u8) hm h)) ?_
    first | (have FRx := FR; clear FRx) | have FR := fr0S
    have FA := Sm.mk (TFWlE)
    repeat' first | (apply Sm.mk; refine YsWlE0 ?_) | refine WP.seq fun K hK => ?_ | (apply Ob.mk; exact Yo) | refine And.intro (Ob.out ?_) ?_ | refine Y1WlE ?_ | refine YzWlE ?_ | (refine WP.cond rfl (fun hc => ?_) (fun hc => ?_) <;> (try simp only [ZC, reduceCtorEq, ZD] at hc) <;> (try exact absurd hc (by decide)) <;> (try (exfalso; omega))) | refine Rt.mk (And.intro (fun hg => Sm.out ?_) fun hg => Sm.out ?_) | (refine Nu.mk ?_; first | (fail_if_success have := nb1); intro nb1 | (fail_if_success have := nb2); intro nb2 | (fail_if_success have := nb3); intro nb3 | (fail_if_success have := nb4); intro nb4 | (fail_if_success have := nb5); intro nb5 | (fail_if_success have := nb6); intro nb6 | intro nbz) | (apply Yfr; refine Yf FR fun hFRb FR => ?_) | refine Two.mk ?_ ?_ | (apply Yxc; exact Yx) | refine Cs.mk fun hcs => Sm.out ?_ | go_step | omega | (simp only [maxLen_eq]; omega) | exact trivial
    (refine OutQ.wk (Wk.freeze (nb2) (by simp only [ZK, rvc, capA, appA, litL, mkfv, drawF, headN, pureH, stp, dvc, calleeOf, gcall, pev, eff, newB, okd, og, ogs, ogo, ogp, slv, bltv, opd, litv, strip, one, both, putE, St.put, look, gdOf, gdv, picka, pickv, pickw, binv, bini, bins, binb, binp, binq, isSlT, bina, shp, eqCells, unv, convv, nilv, faddv, addp, idxav, idxp, load1, load1m, loadn, loadnm, loadv, hget, hset, hrep, hdel, slicev, slice3v, bnd, shift1, lenv, capv, IntKind.bits, extractv, fieldv, indexv, min2v, max2v, mkiv, tasv, tasz, cellsA, fillA, buildv, stC, oneC, rowMB, intsA, plN, appE, appZ, appC, appS, srcB, appNZ, appNC, VwL, srcC, srcZ, srcM, isBoolT, isPtrT, isSliceT, uOk, Value.oneCell', Nat.reducePow, Int.reducePow, Nat.reduceAdd, Nat.reduceMul, Nat.reduceSub, Nat.reduceLT, Nat.reduceLeDiff, Nat.reduceEqDiff, Nat.reduceBEq, Nat.reduceDiv, Nat.reduceMod, ↓reduceIte, reduceCtorEq, Int.reduceToNat, Int.reduceLT, Int.reduceLE, TFWlE, SeqQ, BlkQ, LoopQ, BodyQ, FR.out]; first | done | rfl)) ?_; simp only [frzE, frz, ZK, rvc, capA, appA, litL, mkfv, drawF, headN, pureH, stp, dvc, calleeOf, gcall, pev, eff, newB, okd, og, ogs, ogo, ogp, slv, bltv, opd, litv, strip, one, both, putE, St.put, look, gdOf, gdv, picka, pickv, pickw, binv, bini, bins, binb, binp, binq, isSlT, bina, shp, eqCells, unv, convv, nilv, faddv, addp, idxav, idxp, load1, load1m, loadn, loadnm, loadv, hget, hset, hrep, hdel, slicev, slice3v, bnd, shift1, lenv, capv, IntKind.bits, extractv, fieldv, indexv, min2v, max2v, mkiv, tasv, tasz, cellsA, fillA, buildv, stC, oneC, rowMB, intsA, plN, appE, appZ, appC, appS, srcB, appNZ, appNC, VwL, srcC, srcZ, srcM, isBoolT, isPtrT, isSliceT, uOk, Value.oneCell', Nat.reducePow, Int.reducePow, Nat.reduceAdd, Nat.reduceMul, Nat.reduceSub, Nat.reduceLT, Nat.reduceLeDiff, Nat.reduceEqDiff, Nat.reduceBEq, Nat.reduceDiv, Nat.reduceMod, ↓reduceIte, reduceCtorEq, Int.reduceToNat, Int.reduceLT, Int.reduceLE, TFWlE, SeqQ, BlkQ, LoopQ, BodyQ, FR.out])
    (refine Yg ?_; try exact trivial)
def rgV : List Int → Nat → Nat → AV
  | [], _, _ => nl
  | z :: r, x, k => ms x 0 (z :: r).length k
def rgH : List Int → Nat → Nat → Hp
  | [], _, _ => []
  | z :: r, x, k => [(x, .zs .u8 (z :: r) k 5)]
theorem rgV_ne {L : List Int} (h : L ≠ []) (x k : Nat) : rgV L x k = ms x 0 L.length k := by
  cases L with
  | nil => exact absurd rfl h
  | cons z r => rfl
theorem rgH_ne {L : List Int} (h : L ≠ []) (x k : Nat) : rgH L x k = [(x, .zs .u8 L k 5)] := by
  cases L with
  | nil => exact absurd rfl h
  | cons z r => rfl
theorem pm1 (m : Nat × MB) (T : Hp) : (m :: T).Perm (T ++ [m]) := List.perm_append_comm (l₁ := [m]) (l₂ := T)
structure RgG where
  j : Nat
  x : Nat
  k : Nat
abbrev tlB (R : Bs) (u s : Nat) : Bs := (R.take u).drop (u / s * s)
end Go.Proofs.Yteoajodoejoccaa
