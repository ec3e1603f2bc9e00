/-
  The walks and the laws that the statement leans on, part 15.
-/
import Derived.Test.YtdkkfgcdnojmaaaDoorG13
import Derived.Test.YtdkkfgcdnojmaaaDoorG14
namespace Go.Proofs.YtdkkfgcdnojmaaaDoor
open Go
set_option linter.unusedVariables false
set_option linter.unusedSimpArgs false
theorem rn_app {zs : List Int} (hb : By zs) (hg : Gd zs 0) (T : List Int) : rn (zs ++ T) = rn zs ++ rn T := by
  have := rn_encs (gr_rn hb hg) T
  rwa [enc_rn hb hg] at this
theorem gd_app {zs T : List Int} (hb : By zs) (hg : Gd zs 0) (hT : By T) (hgT : Gd T 0) : Gd (zs ++ T) 0 := by
  have h1 := gd_encs (l := rn zs ++ rn T) (fun r hr => (List.mem_append.1 hr).elim (gr_rn hb hg r) (gr_rn hT hgT r))
  rw [List.flatMap_append, enc_rn hb hg, enc_rn hT hgT] at h1
  exact h1
theorem rn_inj {a b : List Int} (ha : By a) (hb : By b) (hg : Gd a 0) (h : rn a = rn b) : a = b := by
  have hgb : Gd b 0 := by
    intro r hr
    have e : rnF b (b.length - 0) 0 = rn b := rfl
    rw [e, ← h] at hr
    exact hg r hr
  rw [← enc_rn ha hg, ← enc_rn hb hgb, h]
/-! ### the code's runes: what stands for a bad byte -/
abbrev wrg : List Int := [239, 191, 189]
theorem enc_wrg : enc8 65533 = wrg := by decide +kernel
theorem gr_wrg : Gr 65533 := by unfold Gr; omega
theorem wrg_by : By wrg := by rw [← enc_wrg]; exact enc8_by gr_wrg
theorem el_wrg {zs : List Int} (hb : By zs) {i : Nat} (h : i < zs.length) : ∃ r w : Nat, Utf8.decode (bstr zs) i = (r, w) ∧ r < 2000000 ∧ (elR zs i).2 = w ∧
    ((((r : Int) == 65533) && !decide ((zs.drop i).take 3 = wrg)) = true → (elR zs i).1 = -1) ∧ ((((r : Int) == 65533) && !decide ((zs.drop i).take 3 = wrg)) = false → (elR zs i).1 = (r : Int)) := by
  obtain ⟨r, w, hd, hr, h1⟩ := el_dec hb h
  refine ⟨r, w, hd, hr, ?_⟩
  rcases h1 with ⟨e, h1, h2, h3⟩ | ⟨e, rfl, rfl⟩
  · refine ⟨by rw [e], fun hx => ?_, fun _ => by rw [e]⟩
    simp only [Bool.and_eq_true, beq_iff_eq, Bool.not_eq_true', decide_eq_false_iff_not] at hx
    obtain ⟨hx1, hx2⟩ := hx
    exfalso
    have := enc_el hb h (by rw [e]; simp only; omega)
    rw [e] at this
    simp only at this
    rw [hx1, enc_wrg] at this
    exact hx2 (by rw [this]; rfl)
  · refine ⟨by rw [e], fun _ => by rw [e], fun hx => ?_⟩
    exfalso
    simp only [Bool.and_eq_false_iff, beq_eq_false_iff_ne, Bool.not_eq_false', decide_eq_true_eq] at hx
    rcases hx with hx | hx
    · exact hx rfl
    · have e2 : zs.drop i = wrg ++ (zs.drop i).drop 3 := by rw [← hx, List.take_append_drop]
      have e3 := elR_enc gr_wrg ((zs.drop i).drop 3)
      rw [enc_wrg, ← e2, elR_drop, Nat.add_zero, e] at e3
      simp at e3
/-! ### marks -/
def mkB (r : Int) : Bool := r == 42 || r == 63
theorem mk_lo {r : Int} (h : mkB r = true) : r < 128 ∧ 0 ≤ r := by
  unfold mkB at h
  simp only [Bool.or_eq_true, beq_iff_eq] at h
  omega
theorem mk_rF {zs : List Int} (hb : By zs) : ∀ k i, zs.length - i ≤ k → ((rF zs i).any mkB = (zs.drop i).any mkB) := by
  intro k
  induction k with
  | zero => intro i h; rw [rF_end (by omega), List.drop_eq_nil_of_le (by omega)]
  | succ k ih =>
    intro i h
    by_cases hi : i < zs.length
    · rw [rF_step hi, List.any_cons]
      have hw := elR_w zs i
      have hin := elR_in hb hi
      rw [ih _ (by omega)]
      by_cases h0 : zs.getD i 0 < 128
      · have e : elR zs i = (zs.getD i 0, 1) := by unfold elR; rw [if_pos h0]
        rw [e, drop_one zs hi, List.any_cons]
      · have hp : (zs.drop i).any mkB = (zs.drop (i + (elR zs i).2)).any mkB := by
          have hall : ∀ q, i ≤ q → q < i + (elR zs i).2 → mkB (zs.getD q 0) = false := by
            intro q h1 h2
            cases hm : mkB (zs.getD q 0) with
            | false => rfl
            | true =>
              exfalso
              have hl := (mk_lo hm).1
              unfold elR at h2
              rw [if_neg h0] at h2
              split at h2
              · rename_i hx
                have := hx.2.1 (q - i)
                simp only at h2
                by_cases e : q = i
                · subst e; exact h0 hl
                · have := this (by omega) (by omega)
                  rw [show i + (q - i) = q by omega] at this
                  have := this.2.1
                  omega
              · simp only at h2
                have : q = i := by omega
                subst this; exact h0 hl
          have gen : ∀ d j, (∀ q, j ≤ q → q < j + d → mkB (zs.getD q 0) = false) → j + d ≤ zs.length → (zs.drop j).any mkB = (zs.drop (j + d)).any mkB := by
            intro d
            induction d with
            | zero => intro j _ _; rfl
            | succ d ihd =>
              intro j hq hl
              rw [drop_one zs (show j < zs.length by omega), List.any_cons, hq j (Nat.le_refl _) (by omega), Bool.false_or, ihd (j + 1) (fun q h1 h2 => hq q (by omega) (by omega)) (by omega), show j + 1 + d = j + (d + 1) by omega]
          exact gen _ i hall hin.1
        have he : mkB (elR zs i).1 = false := by
          cases hm : mkB (elR zs i).1 with
          | false => rfl
          | true =>
            exfalso
            have hl := mk_lo hm
            unfold elR at hl
            rw [if_neg h0] at hl
            split at hl
            · rename_i hx
              have hf := hx.2.2
              simp only at hl
              obtain ⟨n, hn⟩ : ∃ n, n = nB (zs.getD i 0) := ⟨_, rfl⟩
              rw [← hn] at hf hl hx
              have hls : 128 ≤ lsR n := by
                have h3 : n ≤ 3 := by rw [hn]; exact nB_le _
                have h1 : n ≠ 0 := hx.1
                obtain rfl | rfl | rfl : n = 1 ∨ n = 2 ∨ n = 3 := by omega
                all_goals decide
              have := hf.1
              omega
            · simp at hl
        rw [he, Bool.false_or, hp]
    · rw [rF_end (by omega), List.drop_eq_nil_of_le (by omega)]
theorem mk_rn {zs : List Int} (hb : By zs) : (rn zs).any mkB = zs.any mkB := by
  rw [← rF_zero, mk_rF hb _ 0 (Nat.le_refl _), List.drop_zero]
def ixM : List Int → Nat → Int
  | [], _ => -1
  | z :: r, i => if mkB z then (i : Int) else ixM r (i + 1)
theorem ixM_any : ∀ (l : List Int) (i : Nat), decide (ixM l i ≥ 0) = l.any mkB
  | [], i => rfl
  | z :: r, i => by
    unfold ixM
    cases h : mkB z with
    | true => simp [h]
    | false => simp [h]; rw [← ixM_any r (i + 1)]
/-! ### trimmed -/
def trL (c : Int) (zs : List Int) : List Int := zs.dropWhile (· == c)
def trR (c : Int) (zs : List Int) : List Int := (zs.reverse.dropWhile (· == c)).reverse
theorem trR_snoc (c z : Int) (zs : List Int) : trR c (zs ++ [z]) = if z = c then trR c zs else zs ++ [z] := by
  unfold trR
  rw [List.reverse_append]
  simp only [List.reverse_cons, List.reverse_nil, List.nil_append, List.singleton_append, List.dropWhile_cons, beq_iff_eq]
  split
  · rfl
  · simp
theorem trL_cons (c z : Int) (zs : List Int) : trL c (z :: zs) = if z = c then trL c zs else z :: zs := by
  unfold trL
  simp only [List.dropWhile_cons, beq_iff_eq]
theorem dw_nil {c : Int} : ∀ {l : List Int}, l.dropWhile (· == c) = [] ↔ ∀ z ∈ l, z = c
  | [] => by simp
  | z :: r => by
    simp only [List.dropWhile_cons, beq_iff_eq, List.mem_cons, forall_eq_or_imp]
    split
    · rename_i h; rw [dw_nil]; simp [h]
    · rename_i h; simp [h]
theorem trim_nil (c : Int) (zs : List Int) : trL c (trR c zs) = [] ↔ ∀ z ∈ zs, z = c := by
  constructor
  · intro h
    by_cases h2 : trR c zs = []
    · unfold trR at h2
      rw [List.reverse_eq_nil_iff, dw_nil] at h2
      intro z hz
      exact h2 z (List.mem_reverse.2 hz)
    · exfalso
      unfold trL at h
      rw [dw_nil] at h
      -- the last one is no such
      obtain ⟨M, z, hM⟩ : ∃ M z, trR c zs = M ++ [z] := by
        obtain h3 | ⟨M, z, h3⟩ := List.eq_nil_or_concat (trR c zs)
        · exact absurd h3 h2
        · exact ⟨M, z, by rw [h3]; simp⟩
      have hz := h z (by rw [hM]; simp)
      unfold trR at hM
      have h4 := congrArg List.reverse hM
      rw [List.reverse_reverse, List.reverse_append] at h4
      have h5 := List.head?_dropWhile_not (· == c) zs.reverse
      rw [h4] at h5
      simp [hz] at h5
  · intro h
    have : trR c zs = [] := by
      unfold trR
      rw [List.reverse_eq_nil_iff, dw_nil]
      intro z hz
      exact h z (List.mem_reverse.1 hz)
    rw [this]; rfl
theorem trR_len (c : Int) (zs : List Int) : (trR c zs).length ≤ zs.length := by
  unfold trR
  rw [List.length_reverse]
  have := (List.dropWhile_suffix (l := zs.reverse) (· == c)).length_le
  simpa using this
theorem By.of_mem {zs : List Int} (h : ∀ z ∈ zs, 0 ≤ z ∧ z ≤ 255) : By zs := fun i hi => by
  rw [List.getD_eq_getElem?_getD, List.getElem?_eq_getElem hi, Option.getD_some]
  exact h _ (List.getElem_mem hi)
theorem By.mem {zs : List Int} (h : By zs) : ∀ z ∈ zs, 0 ≤ z ∧ z ≤ 255 := fun z hz => by
  obtain ⟨i, hi, rfl⟩ := List.mem_iff_getElem.1 hz
  have := h i hi
  rwa [List.getD_eq_getElem?_getD, List.getElem?_eq_getElem hi, Option.getD_some] at this
theorem By.trR {zs : List Int} (h : By zs) (c : Int) : By (trR c zs) := By.of_mem fun z hz => h.mem z (by
  unfold Proofs.YtdkkfgcdnojmaaaDoor.trR at hz
  rw [List.mem_reverse] at hz
  exact List.mem_reverse.1 ((List.dropWhile_suffix (l := zs.reverse) (· == c)).subset hz))
theorem By.trL {zs : List Int} (h : By zs) (c : Int) : By (trL c zs) := By.of_mem fun z hz => h.mem z ((List.dropWhile_suffix (l := zs) (· == c)).subset hz)
/-! ### runes as a text -/
theorem enc_star {r : Int} (hr : Gr r) : Utf8.encode r = bstr (enc8 r) := by
  obtain ⟨h0, h1, h2⟩ := hr
  obtain ⟨n, rfl⟩ := Int.eq_ofNat_of_zero_le h0
  have hv : Utf8.valid ((n : Nat) : Int) = true := (valid_iff n).2 ⟨by omega, by omega⟩
  have q0 : ∀ x : Int, 0 ≤ x → UInt8.ofNat x.toNat = UInt8.ofNat x.toNat := fun _ _ => rfl
  unfold Utf8.encode enc8
  rw [if_pos hv]
  simp only [Int.toNat_natCast]
  by_cases c1 : n < 128
  · rw [if_pos c1, if_pos (show (n : Int) < 128 by omega)]; unfold bstr; simp
  · rw [if_neg c1, if_neg (show ¬ (n : Int) < 128 by omega)]
    by_cases c2 : n < 2048
    · rw [if_pos c2, if_pos (show (n : Int) < 2048 by omega)]
      unfold bstr
      simp only [List.map_cons, List.map_nil]
      rw [show (192 + (n : Int) / 64).toNat = 192 + n / 64 by omega, show (128 + (n : Int) % 64).toNat = 128 + n % 64 by omega]
    · rw [if_neg c2, if_neg (show ¬ (n : Int) < 2048 by omega)]
      by_cases c3 : n < 65536
      · rw [if_pos c3, if_pos (show (n : Int) < 65536 by omega)]
        unfold bstr
        simp only [List.map_cons, List.map_nil]
        rw [show (224 + (n : Int) / 4096).toNat = 224 + n / 4096 by omega, show (128 + (n : Int) / 64 % 64).toNat = 128 + n / 64 % 64 by omega, show (128 + (n : Int) % 64).toNat = 128 + n % 64 by omega]
      · rw [if_neg c3, if_neg (show ¬ (n : Int) < 65536 by omega)]
        unfold bstr
        simp only [List.map_cons, List.map_nil]
        rw [show (240 + (n : Int) / 262144).toNat = 240 + n / 262144 by omega, show (128 + (n : Int) / 4096 % 64).toNat = 128 + n / 4096 % 64 by omega, show (128 + (n : Int) / 64 % 64).toNat = 128 + n / 64 % 64 by omega, show (128 + (n : Int) % 64).toNat = 128 + n % 64 by omega]
theorem rstr_enc : ∀ {l : List Int}, (∀ r ∈ l, Gr r) → rstr l = bstr (l.flatMap enc8) := by
  have key : ∀ (l : List Int) (A : List Int), (∀ r ∈ l, Gr r) → l.foldl (fun r n => r ++ Utf8.encode n) (bstr A) = bstr (A ++ l.flatMap enc8) := by
    intro l
    induction l with
    | nil => intro A _; simp
    | cons r l ih =>
      intro A h
      rw [List.foldl_cons, enc_star (h r (List.mem_cons_self ..)), bstr_app, ih _ fun x hx => h x (List.mem_cons_of_mem _ hx)]
      simp
  intro l h
  have := key l [] h
  exact this
theorem enc_marks {l : List Int} (h : ∀ r ∈ l, Gr r) : (∀ z ∈ l.flatMap enc8, z = 42) ↔ ∀ r ∈ l, r = 42 := by
  constructor
  · intro hz r hr
    have hg := h r hr
    obtain ⟨h0, h1, -⟩ := hg
    have hm : ∀ z ∈ enc8 r, z = 42 := fun z hz' => hz z (List.mem_flatMap.2 ⟨r, hr, hz'⟩)
    unfold enc8 at hm
    split at hm
    · exact hm r (by simp)
    · split at hm
      · have := hm (192 + r / 64) (by simp); omega
      · split at hm
        · have := hm (224 + r / 4096) (by simp); omega
        · have := hm (240 + r / 262144) (by simp); omega
  · intro hr z hz
    obtain ⟨r, h1, h2⟩ := List.mem_flatMap.1 hz
    have := hr r h1
    subst this
    have : enc8 42 = [42] := by decide +kernel
    rw [this] at h2
    simpa using h2
end Go.Proofs.YtdkkfgcdnojmaaaDoor
