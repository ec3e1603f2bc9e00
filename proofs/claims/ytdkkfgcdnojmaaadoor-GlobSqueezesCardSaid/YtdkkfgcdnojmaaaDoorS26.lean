/-
  The walks and the laws that the statement leans on, part 26.
-/
import Derived.Test.YtdkkfgcdnojmaaaDoorS19
namespace Go.Proofs.YtdkkfgcdnojmaaaDoor
open Go
set_option linter.unusedVariables false
set_option linter.unusedSimpArgs false
def mkE (k : Nat) (b : Bool) : List Int := List.replicate k 63 ++ if b then [42] else []
def sq (k : Nat) (b : Bool) : List Int → List Int
  | [] => mkE k b
  | c :: l => if c = 42 then sq k true l else if c = 63 then sq (k + 1) b l else mkE k b ++ c :: sq 0 false l
theorem mkE_zero : mkE 0 false = [] := rfl
theorem mkE_succ (k : Nat) (b : Bool) : mkE (k + 1) b = 63 :: mkE k b := by simp [mkE, List.replicate_succ]
theorem sq_star (k : Nat) (b : Bool) (l : List Int) : sq k b (42 :: l) = sq k true l := by simp [sq]
theorem sq_one (k : Nat) (b : Bool) (l : List Int) : sq k b (63 :: l) = sq (k + 1) b l := by simp [sq]
theorem sq_else (k : Nat) (b : Bool) {c : Int} (l : List Int) (h1 : c ≠ 42) (h2 : c ≠ 63) : sq k b (c :: l) = mkE k b ++ c :: sq 0 false l := by simp [sq, h1, h2]
theorem Mt_cong (a : List Int) {b c : List Int} (h : ∀ t, Mt b t ↔ Mt c t) (t : List Int) : Mt (a ++ b) t ↔ Mt (a ++ c) t := by
  rw [Mt_app, Mt_app]
  simp only [h]
theorem Mt_ss (l t : List Int) : Mt (42 :: 42 :: l) t ↔ Mt (42 :: l) t := by
  rw [Mt_star, Mt_star]
  constructor
  · rintro ⟨k, hk, h⟩
    obtain ⟨q, hq, h⟩ := (Mt_star _ _).1 h
    rw [List.length_drop] at hq
    exact ⟨k + q, by omega, by rw [← List.drop_drop]; exact h⟩
  · rintro ⟨k, hk, h⟩
    exact ⟨k, hk, (Mt_star _ _).2 ⟨0, Nat.zero_le _, by simpa using h⟩⟩
theorem Mt_so (l t : List Int) : Mt (42 :: 63 :: l) t ↔ Mt (63 :: 42 :: l) t := by
  have h63 : (63 : Int) ≠ 42 := by decide
  rw [Mt_star, Mt_one h63]
  constructor
  · rintro ⟨k, hk, h⟩
    obtain ⟨x, t', e, -, h2⟩ := (Mt_one h63 _ _).1 h
    cases t with
    | nil => simp at e
    | cons y t =>
      have el := congrArg List.length e
      simp only [List.length_drop, List.length_cons] at el
      refine ⟨y, t, rfl, .inl rfl, (Mt_star _ _).2 ⟨k, by omega, ?_⟩⟩
      have e2 : t.drop k = t' := by
        have := congrArg List.tail e
        rw [List.tail_cons, List.tail_drop] at this
        simpa using this
      rw [e2]; exact h2
  · rintro ⟨x, t', rfl, -, h⟩
    obtain ⟨k, hk, h⟩ := (Mt_star _ _).1 h
    have hk' : k < (x :: t').length := by simp; omega
    refine ⟨k, by simp; omega, ?_⟩
    rw [List.drop_eq_getElem_cons hk']
    exact (Mt_one h63 _ _).2 ⟨_, _, rfl, .inl rfl, by simpa using h⟩
theorem Mt_mkS (k : Nat) (b : Bool) (l t : List Int) : Mt (mkE k b ++ 42 :: l) t ↔ Mt (mkE k true ++ l) t := by
  cases b with
  | false => simp [mkE]
  | true =>
    have e : mkE k true ++ 42 :: l = List.replicate k 63 ++ (42 :: 42 :: l) := by simp [mkE]
    have e2 : mkE k true ++ l = List.replicate k 63 ++ (42 :: l) := by simp [mkE]
    rw [e, e2]
    exact Mt_cong _ (Mt_ss l) t
theorem Mt_mkO (k : Nat) (b : Bool) (l t : List Int) : Mt (mkE k b ++ 63 :: l) t ↔ Mt (mkE (k + 1) b ++ l) t := by
  cases b with
  | false => simp [mkE, List.replicate_succ']
  | true =>
    have e : mkE k true ++ 63 :: l = List.replicate k 63 ++ (42 :: 63 :: l) := by simp [mkE]
    have e2 : mkE (k + 1) true ++ l = List.replicate k 63 ++ (63 :: 42 :: l) := by simp [mkE, List.replicate_succ']
    rw [e, e2]
    exact Mt_cong _ (Mt_so l) t
theorem Mt_sq : ∀ (l : List Int) (k : Nat) (b : Bool) (t : List Int), Mt (sq k b l) t ↔ Mt (mkE k b ++ l) t
  | [], k, b, t => by simp [sq]
  | c :: l, k, b, t => by
    by_cases h1 : c = 42
    · subst h1; rw [sq_star, Mt_sq l, Mt_mkS]
    · by_cases h2 : c = 63
      · subst h2; rw [sq_one, Mt_sq l, Mt_mkO]
      · rw [sq_else k b l h1 h2]
        refine Mt_cong _ (fun t => ?_) t
        exact Mt_cong [c] (fun t => by rw [Mt_sq l]; rfl) t
theorem sq_mkE : ∀ (j k : Nat) (b c : Bool) (l : List Int), sq k b (mkE j c ++ l) = sq (k + j) (b || c) l
  | 0, k, b, c, l => by cases c <;> cases b <;> simp [mkE, sq]
  | j + 1, k, b, c, l => by rw [mkE_succ, List.cons_append, sq_one, sq_mkE j]; congr 1; omega
theorem sq_sq : ∀ (l : List Int) (k j : Nat) (b c : Bool), sq k b (sq j c l) = sq (k + j) (b || c) l
  | [], k, j, b, c => by
    have := sq_mkE j k b c []
    rwa [List.append_nil] at this
  | x :: l, k, j, b, c => by
    by_cases h1 : x = 42
    · subst h1; rw [sq_star, sq_star, sq_sq l]; simp
    · by_cases h2 : x = 63
      · subst h2; rw [sq_one, sq_one, sq_sq l]; congr 1
      · rw [sq_else j c l h1 h2, sq_mkE, sq_else _ _ _ h1 h2, sq_else _ _ _ h1 h2, sq_sq l]; rfl
theorem mkE_len (k : Nat) (b : Bool) : (mkE k b).length = k + (if b then 1 else 0) := by cases b <;> simp [mkE]
theorem sq_len : ∀ (l : List Int) (k : Nat) (b : Bool), (sq k b l).length ≤ k + (if b then 1 else 0) + l.length
  | [], k, b => by simp [sq, mkE_len]
  | c :: l, k, b => by
    by_cases h1 : c = 42
    · subst h1
      rw [sq_star]
      have := sq_len l k true
      cases b <;> simp at this ⊢ <;> omega
    · by_cases h2 : c = 63
      · subst h2
        rw [sq_one]
        have := sq_len l (k + 1) b
        simp only [List.length_cons]; omega
      · rw [sq_else k b l h1 h2]
        have := sq_len l 0 false
        simp only [List.length_append, List.length_cons, mkE_len] at this ⊢
        simp at this
        omega
theorem sq_ne : ∀ (l : List Int) (k : Nat) (b : Bool), l ≠ [] ∨ 0 < k ∨ b = true → sq k b l ≠ []
  | [], k, b, h => by
    intro e
    have := congrArg List.length e
    simp only [sq, mkE_len, List.length_nil] at this
    rcases h with h | h | h
    · exact h rfl
    · omega
    · rw [h] at this; simp at this
  | c :: l, k, b, h => by
    by_cases h1 : c = 42
    · subst h1; rw [sq_star]; exact sq_ne l k true (.inr (.inr rfl))
    · by_cases h2 : c = 63
      · subst h2; rw [sq_one]; exact sq_ne l (k + 1) b (.inr (.inl (by omega)))
      · rw [sq_else k b l h1 h2]; simp
theorem mkE_mem {k : Nat} {b : Bool} {r : Int} (h : r ∈ mkE k b) : r = 42 ∨ r = 63 := by
  simp only [mkE, List.mem_append, List.mem_replicate] at h
  rcases h with h | h
  · exact .inr h.2
  · cases b <;> simp at h; exact .inl h
theorem sq_mem : ∀ (l : List Int) (k : Nat) (b : Bool) (r : Int), r ∈ sq k b l → r = 42 ∨ r = 63 ∨ r ∈ l
  | [], k, b, r, h => (mkE_mem h).imp id .inl
  | c :: l, k, b, r, h => by
    by_cases h1 : c = 42
    · subst h1
      rw [sq_star] at h
      exact (sq_mem l k true r h).imp id (.imp id (List.mem_cons_of_mem _))
    · by_cases h2 : c = 63
      · subst h2
        rw [sq_one] at h
        exact (sq_mem l _ b r h).imp id (.imp id (List.mem_cons_of_mem _))
      · rw [sq_else k b l h1 h2] at h
        rcases List.mem_append.1 h with h | h
        · exact (mkE_mem h).imp id .inl
        · rcases List.mem_cons.1 h with rfl | h
          · exact .inr (.inr (List.mem_cons_self ..))
          · exact (sq_mem l _ _ r h).imp id (.imp id (List.mem_cons_of_mem _))
theorem sq_plain : ∀ (bs : List Int) (rest : List Int) (k : Nat) (b : Bool), bs ≠ [] → (∀ z ∈ bs, z ≠ 42 ∧ z ≠ 63) → sq k b (bs ++ rest) = mkE k b ++ (bs ++ sq 0 false rest)
  | [], rest, k, b, h, _ => absurd rfl h
  | z :: zs, rest, k, b, _, hz => by
    have h0 := hz z (List.mem_cons_self ..)
    rw [List.cons_append, sq_else _ _ _ h0.1 h0.2]
    cases zs with
    | nil => rfl
    | cons y ys => rw [sq_plain (y :: ys) rest 0 false (by simp) fun x hx => hz x (List.mem_cons_of_mem _ hx)]; rfl
end Go.Proofs.YtdkkfgcdnojmaaaDoor
