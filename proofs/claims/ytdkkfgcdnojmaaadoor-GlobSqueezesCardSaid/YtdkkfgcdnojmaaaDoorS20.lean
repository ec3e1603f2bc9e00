/-
  The walks and the laws that the statement leans on, part 20.
-/
import Derived.Test.YtdkkfgcdnojmaaaDoorS18
import Derived.Test.YtdkkfgcdnojmaaaDoorS19
namespace Go.Proofs.YtdkkfgcdnojmaaaDoor
open Go
set_option linter.unusedVariables false
set_option linter.unusedSimpArgs false
/-! ### the code's runes: what stands for a bad byte -/
abbrev wrg : List Int := [239, 191, 189]
theorem enc_wrg : enc8 65533 = wrg := by decide +kernel
theorem gr_wrg : Gr 65533 := by unfold Gr; omega
theorem wrg_by : By wrg := by rw [← enc_wrg]; exact enc8_by gr_wrg
theorem el_wrg {zs : List Int} (hb : By zs) {i : Nat} (h : i < zs.length) : ∃ r w : Nat, Utf8.decode (bstr zs) i = (r, w) ∧ r < 2000000 ∧ (elR zs i).2 = w ∧
    ((((r : Int) == 65533) && !decide ((zs.drop i).take 3 = wrg)) = true → (elR zs i).1 = -1) ∧ ((((r : Int) == 65533) && !decide ((zs.drop i).take 3 = wrg)) = false → (elR zs i).1 = (r : Int)) := by
  obtain ⟨r, w, hd, hr, h1⟩ := el_dec hb h
  refine ⟨r, w, hd, hr, ?_⟩
  rcases h1 with ⟨e, h1, h2, h3⟩ | ⟨e, rfl, rfl⟩
  · refine ⟨by rw [e], fun hx => ?_, fun _ => by rw [e]⟩
    simp only [Bool.and_eq_true, beq_iff_eq, Bool.not_eq_true', decide_eq_false_iff_not] at hx
    obtain ⟨hx1, hx2⟩ := hx
    exfalso
    have := enc_el hb h (by rw [e]; simp only; omega)
    rw [e] at this
    simp only at this
    rw [hx1, enc_wrg] at this
    exact hx2 (by rw [this]; rfl)
  · refine ⟨by rw [e], fun _ => by rw [e], fun hx => ?_⟩
    exfalso
    simp only [Bool.and_eq_false_iff, beq_eq_false_iff_ne, Bool.not_eq_false', decide_eq_true_eq] at hx
    rcases hx with hx | hx
    · exact hx rfl
    · have e2 : zs.drop i = wrg ++ (zs.drop i).drop 3 := by rw [← hx, List.take_append_drop]
      have e3 := elR_enc gr_wrg ((zs.drop i).drop 3)
      rw [enc_wrg, ← e2, elR_drop, Nat.add_zero, e] at e3
      simp at e3
/-! ### trimmed -/
def trL (c : Int) (zs : List Int) : List Int := zs.dropWhile (· == c)
def trR (c : Int) (zs : List Int) : List Int := (zs.reverse.dropWhile (· == c)).reverse
theorem trR_snoc (c z : Int) (zs : List Int) : trR c (zs ++ [z]) = if z = c then trR c zs else zs ++ [z] := by
  unfold trR
  rw [List.reverse_append]
  simp only [List.reverse_cons, List.reverse_nil, List.nil_append, List.singleton_append, List.dropWhile_cons, beq_iff_eq]
  split
  · rfl
  · simp
theorem trL_cons (c z : Int) (zs : List Int) : trL c (z :: zs) = if z = c then trL c zs else z :: zs := by
  unfold trL
  simp only [List.dropWhile_cons, beq_iff_eq]
theorem dw_nil {c : Int} : ∀ {l : List Int}, l.dropWhile (· == c) = [] ↔ ∀ z ∈ l, z = c
  | [] => by simp
  | z :: r => by
    simp only [List.dropWhile_cons, beq_iff_eq, List.mem_cons, forall_eq_or_imp]
    split
    · rename_i h; rw [dw_nil]; simp [h]
    · rename_i h; simp [h]
theorem trim_nil (c : Int) (zs : List Int) : trL c (trR c zs) = [] ↔ ∀ z ∈ zs, z = c := by
  constructor
  · intro h
    by_cases h2 : trR c zs = []
    · unfold trR at h2
      rw [List.reverse_eq_nil_iff, dw_nil] at h2
      intro z hz
      exact h2 z (List.mem_reverse.2 hz)
    · exfalso
      unfold trL at h
      rw [dw_nil] at h
      -- the last one is no such
      obtain ⟨M, z, hM⟩ : ∃ M z, trR c zs = M ++ [z] := by
        obtain h3 | ⟨M, z, h3⟩ := List.eq_nil_or_concat (trR c zs)
        · exact absurd h3 h2
        · exact ⟨M, z, by rw [h3]; simp⟩
      have hz := h z (by rw [hM]; simp)
      unfold trR at hM
      have h4 := congrArg List.reverse hM
      rw [List.reverse_reverse, List.reverse_append] at h4
      have h5 := List.head?_dropWhile_not (· == c) zs.reverse
      rw [h4] at h5
      simp [hz] at h5
  · intro h
    have : trR c zs = [] := by
      unfold trR
      rw [List.reverse_eq_nil_iff, dw_nil]
      intro z hz
      exact h z (List.mem_reverse.1 hz)
    rw [this]; rfl
theorem trR_len (c : Int) (zs : List Int) : (trR c zs).length ≤ zs.length := by
  unfold trR
  rw [List.length_reverse]
  have := (List.dropWhile_suffix (l := zs.reverse) (· == c)).length_le
  simpa using this
theorem By.of_mem {zs : List Int} (h : ∀ z ∈ zs, 0 ≤ z ∧ z ≤ 255) : By zs := fun i hi => by
  rw [List.getD_eq_getElem?_getD, List.getElem?_eq_getElem hi, Option.getD_some]
  exact h _ (List.getElem_mem hi)
theorem By.mem {zs : List Int} (h : By zs) : ∀ z ∈ zs, 0 ≤ z ∧ z ≤ 255 := fun z hz => by
  obtain ⟨i, hi, rfl⟩ := List.mem_iff_getElem.1 hz
  have := h i hi
  rwa [List.getD_eq_getElem?_getD, List.getElem?_eq_getElem hi, Option.getD_some] at this
theorem By.trR {zs : List Int} (h : By zs) (c : Int) : By (trR c zs) := By.of_mem fun z hz => h.mem z (by
  unfold Proofs.YtdkkfgcdnojmaaaDoor.trR at hz
  rw [List.mem_reverse] at hz
  exact List.mem_reverse.1 ((List.dropWhile_suffix (l := zs.reverse) (· == c)).subset hz))
theorem By.trL {zs : List Int} (h : By zs) (c : Int) : By (trL c zs) := By.of_mem fun z hz => h.mem z ((List.dropWhile_suffix (l := zs) (· == c)).subset hz)
/-! ### runes as a text -/
theorem enc_star {r : Int} (hr : Gr r) : Utf8.encode r = bstr (enc8 r) := by
  obtain ⟨h0, h1, h2⟩ := hr
  obtain ⟨n, rfl⟩ := Int.eq_ofNat_of_zero_le h0
  have hv : Utf8.valid ((n : Nat) : Int) = true := (valid_iff n).2 ⟨by omega, by omega⟩
  have q0 : ∀ x : Int, 0 ≤ x → UInt8.ofNat x.toNat = UInt8.ofNat x.toNat := fun _ _ => rfl
  unfold Utf8.encode enc8
  rw [if_pos hv]
  simp only [Int.toNat_natCast]
  by_cases c1 : n < 128
  · rw [if_pos c1, if_pos (show (n : Int) < 128 by omega)]; unfold bstr; simp
  · rw [if_neg c1, if_neg (show ¬ (n : Int) < 128 by omega)]
    by_cases c2 : n < 2048
    · rw [if_pos c2, if_pos (show (n : Int) < 2048 by omega)]
      unfold bstr
      simp only [List.map_cons, List.map_nil]
      rw [show (192 + (n : Int) / 64).toNat = 192 + n / 64 by omega, show (128 + (n : Int) % 64).toNat = 128 + n % 64 by omega]
    · rw [if_neg c2, if_neg (show ¬ (n : Int) < 2048 by omega)]
      by_cases c3 : n < 65536
      · rw [if_pos c3, if_pos (show (n : Int) < 65536 by omega)]
        unfold bstr
        simp only [List.map_cons, List.map_nil]
        rw [show (224 + (n : Int) / 4096).toNat = 224 + n / 4096 by omega, show (128 + (n : Int) / 64 % 64).toNat = 128 + n / 64 % 64 by omega, show (128 + (n : Int) % 64).toNat = 128 + n % 64 by omega]
      · rw [if_neg c3, if_neg (show ¬ (n : Int) < 65536 by omega)]
        unfold bstr
        simp only [List.map_cons, List.map_nil]
        rw [show (240 + (n : Int) / 262144).toNat = 240 + n / 262144 by omega, show (128 + (n : Int) / 4096 % 64).toNat = 128 + n / 4096 % 64 by omega, show (128 + (n : Int) / 64 % 64).toNat = 128 + n / 64 % 64 by omega, show (128 + (n : Int) % 64).toNat = 128 + n % 64 by omega]
theorem rstr_enc : ∀ {l : List Int}, (∀ r ∈ l, Gr r) → rstr l = bstr (l.flatMap enc8) := by
  have key : ∀ (l : List Int) (A : List Int), (∀ r ∈ l, Gr r) → l.foldl (fun r n => r ++ Utf8.encode n) (bstr A) = bstr (A ++ l.flatMap enc8) := by
    intro l
    induction l with
    | nil => intro A _; simp
    | cons r l ih =>
      intro A h
      rw [List.foldl_cons, enc_star (h r (List.mem_cons_self ..)), bstr_app, ih _ fun x hx => h x (List.mem_cons_of_mem _ hx)]
      simp
  intro l h
  have := key l [] h
  exact this
theorem enc_marks {l : List Int} (h : ∀ r ∈ l, Gr r) : (∀ z ∈ l.flatMap enc8, z = 42) ↔ ∀ r ∈ l, r = 42 := by
  constructor
  · intro hz r hr
    have hg := h r hr
    obtain ⟨h0, h1, -⟩ := hg
    have hm : ∀ z ∈ enc8 r, z = 42 := fun z hz' => hz z (List.mem_flatMap.2 ⟨r, hr, hz'⟩)
    unfold enc8 at hm
    split at hm
    · exact hm r (by simp)
    · split at hm
      · have := hm (192 + r / 64) (by simp); omega
      · split at hm
        · have := hm (224 + r / 4096) (by simp); omega
        · have := hm (240 + r / 262144) (by simp); omega
  · intro hr z hz
    obtain ⟨r, h1, h2⟩ := List.mem_flatMap.1 hz
    have := hr r h1
    subst this
    have : enc8 42 = [42] := by decide +kernel
    rw [this] at h2
    simpa using h2
end Go.Proofs.YtdkkfgcdnojmaaaDoor
