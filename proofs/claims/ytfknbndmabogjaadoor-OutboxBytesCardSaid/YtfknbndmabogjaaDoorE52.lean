/-
  The walks and the laws that the statement leans on, part 52.
-/
import Derived.Test.YtfknbndmabogjaaDoorE51
namespace Go.Proofs.YtfknbndmabogjaaDoor
open Go Wi
set_option linter.unusedVariables false
set_option linter.unusedSimpArgs false
theorem nuS_some {zs r : List Int} {n : Nat} (h : nF zs = some (n, r)) : nuS (some zs) = (if 253404892800 < (n : Int) then 253404892800 else (n : Int), some r) := by
  unfold nuS
  rw [show nS (some zs) = (n, some r) from rS_good h]
theorem nuS_bad {zs : List Int} (h : nF zs = none) : nuS (some zs) = (0, none) := by
  unfold nuS
  rw [show nS (some zs) = (0, none) from rS_bad h]; rfl
theorem er_big {k : Ky} {b n t : Int} {a : Bool} (h : 253402300799 < b ∨ 253404892799 < n ∨ 1000000 < t) : erB ⟨k, b, n, t, a⟩ = false := by
  cases hh : erB ⟨k, b, n, t, a⟩ with
  | false => rfl
  | true =>
    unfold erB tkB at hh
    simp only [Bool.and_eq_true, decide_eq_true_eq] at hh
    omega
theorem en_of {zs z1 : List Int} {k : Ky} (hk : kgX zs = some (k, z1)) (hkr : krB k = true) : enS (some zs) = (⟨k, (nuS (some z1)).1, (nuS (nuS (some z1)).2).1, (((cS 1000000 (nuS (nuS (some z1)).2).2).1 : Nat) : Int), (fS (cS 1000000 (nuS (nuS (some z1)).2).2).2).1⟩, (fS (cS 1000000 (nuS (nuS (some z1)).2).2).2).2) := by
  have e : kgS (some zs) = (k, some z1) := by rw [kgS_X, hk]; simp only [hkr, if_true]
  unfold enS
  rw [e]
theorem en_bad {zs : List Int} (h : kgS (some zs) = (k0, none)) : (enS (some zs)).2 = none := by
  unfold enS
  rw [h]; rfl
theorem cS_big {zs r : List Int} {t : Nat} (h : nF zs = some (t, r)) (ht : 1000000 < t) : cS 1000000 (some zs) = (0, none) := rS_bad (by unfold cF; rw [h]; simp only; rw [if_pos (by omega)])
theorem cS_good {zs r : List Int} {t : Nat} (h : nF zs = some (t, r)) (ht : t ≤ 1000000) : cS 1000000 (some zs) = (t, some r) := rS_good (by unfold cF; rw [h]; simp only; rw [if_neg (by omega)])
theorem cS_none {zs : List Int} (h : nF zs = none) : cS 1000000 (some zs) = (0, none) := rS_bad (by unfold cF; rw [h])
theorem en_two (zs : List Int) : (∀ e r, reX zs = some (e, r) → enS (some zs) = (e, some r) ∨ ((enS (some zs)).2 = none ∧ erB e = false)) ∧ (reX zs = none → (enS (some zs)).2 = none ∨ erB (enS (some zs)).1 = false) := by
  unfold reX
  cases hk : kgX zs with
  | none =>
    have e : kgS (some zs) = (k0, none) := by rw [kgS_X, hk]
    exact ⟨fun e r h => (by cases h), fun _ => .inl (en_bad e)⟩
  | some p =>
    obtain ⟨k, z1⟩ := p
    simp only
    cases hkr : krB k with
    | false =>
      have e : kgS (some zs) = (k0, none) := by rw [kgS_X, hk]; simp only [hkr]; rfl
      exact ⟨fun e r h => (by cases h), fun _ => .inl (en_bad e)⟩
    | true =>
      rw [if_neg (by decide), en_of hk hkr]
      clear hk
      cases h1 : nF z1 with
      | none =>
        rw [nuS_bad h1]
        have : n3 3 [] z1 = none := by rw [n3, h1]
        rw [this]
        exact ⟨fun e r h => (by cases h), fun _ => .inl rfl⟩
      | some p =>
        obtain ⟨b, z2⟩ := p
        rw [nuS_some h1]
        simp only
        cases h2 : nF z2 with
        | none =>
          rw [nuS_bad h2]
          have : n3 3 [] z1 = none := by
            rw [n3, h1]; simp only
            split
            · rfl
            · rw [n3, h2]
          rw [this]
          exact ⟨fun e r h => (by cases h), fun _ => .inl rfl⟩
        | some p =>
          obtain ⟨n, z3⟩ := p
          rw [nuS_some h2]
          simp only
          cases h3 : nF z3 with
          | none =>
            rw [cS_none h3]
            have : n3 3 [] z1 = none := by
              rw [n3, h1]; simp only
              split
              · rfl
              · rw [n3, h2]; simp only
                split
                · rfl
                · rw [n3, h3]
            rw [this]
            exact ⟨fun e r h => (by cases h), fun _ => .inl rfl⟩
          | some p =>
            obtain ⟨t, z4⟩ := p
            have hn3 : n3 3 [] z1 = if 253404892799 < b then none else if 253404892799 < n then none else if 253404892799 < t then none else some ([b, n, t], z4) := by
              rw [n3, h1]; simp only
              split
              · rfl
              · rw [n3, h2]; simp only
                split
                · rfl
                · rw [n3, h3]; simp only
                  split
                  · rfl
                  · rfl
            rw [hn3]
            by_cases ht : 1000000 < t
            · rw [cS_big h3 ht]
              refine ⟨fun e r h => .inr ⟨rfl, ?_⟩, fun _ => .inl rfl⟩
              by_cases hb : 253404892799 < b
              · rw [if_pos hb] at h; cases h
              · by_cases hn : 253404892799 < n
                · rw [if_neg hb, if_pos hn] at h; cases h
                · by_cases ht2 : 253404892799 < t
                  · rw [if_neg hb, if_neg hn, if_pos ht2] at h; cases h
                  · rw [if_neg hb, if_neg hn, if_neg ht2] at h
                    simp only at h
                    cases h4 : fF z4 with
                    | none => rw [h4] at h; cases h
                    | some p =>
                      rw [h4] at h
                      cases h
                      exact er_big (.inr (.inr (by simp only [List.getD_cons_succ, List.getD_cons_zero]; omega)))
            · rw [cS_good h3 (by omega)]
              simp only
              by_cases hb : 253404892799 < b
              · rw [if_pos hb]
                refine ⟨fun e r h => (by cases h), fun _ => .inr (er_big (.inl ?_))⟩
                split <;> omega
              · rw [if_neg hb, if_neg (show ¬ (253404892800 : Int) < (b : Int) by omega)]
                by_cases hn : 253404892799 < n
                · rw [if_pos hn]
                  refine ⟨fun e r h => (by cases h), fun _ => .inr (er_big (.inr (.inl ?_)))⟩
                  split <;> omega
                · rw [if_neg hn, if_neg (show ¬ (253404892800 : Int) < (n : Int) by omega), if_neg (by omega)]
                  simp only
                  cases h4 : fF z4 with
                  | none =>
                    rw [show fS (some z4) = (false, none) from rS_bad h4]
                    exact ⟨fun e r h => (by cases h), fun _ => .inl rfl⟩
                  | some p =>
                    obtain ⟨a, z5⟩ := p
                    rw [show fS (some z4) = (a, some z5) from rS_good h4]
                    refine ⟨fun e r h => ?_, fun h => by cases h⟩
                    cases h
                    exact .inl rfl
theorem bgL_none : ∀ c A, (bgL c A none).2 = none
  | 0, A => rfl
  | c + 1, A => bgL_none c _
theorem bgL_mem : ∀ c A o e, e ∈ A → e ∈ (bgL c A o).1
  | 0, A, o, e, h => h
  | c + 1, A, o, e, h => bgL_mem c _ _ e (List.mem_append_left _ h)
theorem rgX_mem : ∀ c A zs L r e, rgX c A zs = some (L, r) → e ∈ A → e ∈ L
  | 0, A, zs, L, r, e, h, he => by cases h; exact he
  | c + 1, A, zs, L, r, e, h, he => by
    rw [rgX] at h
    cases hx : reX zs with
    | none => rw [hx] at h; cases h
    | some p =>
      rw [hx] at h
      exact rgX_mem c _ _ L r e h (List.mem_append_left _ he)
def BadL (x : List En × Option (List Int)) : Prop := x.2 = none ∨ ∃ e ∈ x.1, erB e = false
theorem bgL_bad (c : Nat) (A : List En) (o : Option (List Int)) (e : En) (h : o = none ∨ erB e = false) : BadL (bgL c (A ++ [e]) o) := by
  rcases h with rfl | h
  · exact .inl (bgL_none _ _)
  · exact .inr ⟨e, bgL_mem _ _ _ _ (by simp), h⟩
theorem gl_two : ∀ (c : Nat) (A : List En) (zs : List Int), (∀ L r, rgX c A zs = some (L, r) → bgL c A (some zs) = (L, some r) ∨ (BadL (bgL c A (some zs)) ∧ ∃ e ∈ L, erB e = false)) ∧ (rgX c A zs = none → BadL (bgL c A (some zs)))
  | 0, A, zs => ⟨fun L r h => .inl (by cases h; rfl), fun h => by cases h⟩
  | c + 1, A, zs => by
    obtain ⟨h1, h2⟩ := en_two zs
    have hb : bgL (c + 1) A (some zs) = bgL c (A ++ [(enS (some zs)).1]) (enS (some zs)).2 := rfl
    rw [hb, rgX]
    cases hx : reX zs with
    | none => exact ⟨fun L r h => (by cases h), fun _ => bgL_bad _ _ _ _ (h2 hx)⟩
    | some p =>
      obtain ⟨e, r1⟩ := p
      simp only
      rcases h1 e r1 hx with g | ⟨g1, g2⟩
      · rw [g]
        exact gl_two c (A ++ [e]) r1
      · refine ⟨fun L r h => .inr ⟨bgL_bad _ _ _ _ (.inl g1), e, rgX_mem c _ _ _ _ e h (by simp), g2⟩, fun _ => bgL_bad _ _ _ _ (.inl g1)⟩
theorem bx_bad {L : List En} {d : Int} (h : ∃ e ∈ L, erB e = false) : bxB ⟨L, d⟩ = false := by
  cases hh : bxB ⟨L, d⟩ with
  | false => rfl
  | true =>
    obtain ⟨e, he, h⟩ := h
    rw [((bx_iff _).1 hh).2.1 e he] at h
    cases h
theorem bgS_bad {o : Option (List Int)} (h : BadL (bgL (cS 64 o).1 [] (cS 64 o).2)) : bgS o = (⟨[], 0⟩, none) := by
  unfold bgS
  rcases h with h | h
  · rw [h]; rfl
  · rw [bx_bad h, Bool.and_false]; rfl
theorem bg_two (Z : List Int) : (∀ b r, rbX Z = some (b, r) → bgS (some Z) = (b, some r)) ∧ (rbX Z = none → bgS (some Z) = (⟨[], 0⟩, none)) := by
  unfold rbX
  cases hn : nF Z with
  | none =>
    have e : cS 64 (some Z) = (0, none) := rS_bad (by unfold cF; rw [hn])
    exact ⟨fun b r h => (by cases h), fun _ => bgS_bad (.inl (by rw [e]; rfl))⟩
  | some p =>
    obtain ⟨n, z1⟩ := p
    simp only
    by_cases h64 : 64 < n
    · have e : cS 64 (some Z) = (0, none) := rS_bad (by unfold cF; rw [hn]; simp only; rw [if_pos (by omega)])
      rw [if_pos h64]
      exact ⟨fun b r h => (by cases h), fun _ => bgS_bad (.inl (by rw [e]; rfl))⟩
    have e : cS 64 (some Z) = (n, some z1) := rS_good (by unfold cF; rw [hn]; simp only; rw [if_neg (by omega)])
    rw [if_neg h64]
    obtain ⟨h1, h2⟩ := gl_two n [] z1
    cases hx : rgX n [] z1 with
    | none => exact ⟨fun b r h => (by cases h), fun _ => bgS_bad (by rw [e]; exact h2 hx)⟩
    | some p =>
      obtain ⟨A, z2⟩ := p
      simp only
      rcases h1 A z2 hx with g | ⟨g1, g2⟩
      · cases hd : nF z2 with
        | none =>
          refine ⟨fun b r h => (by cases h), fun _ => ?_⟩
          unfold bgS
          rw [e]
          simp only
          rw [g, show nS (some z2) = (0, none) from rS_bad hd]; rfl
        | some p =>
          obtain ⟨d, r⟩ := p
          simp only
          have hB : bgS (some Z) = if bxB ⟨A, ((d : Nat) : Int)⟩ = true then (⟨A, ((d : Nat) : Int)⟩, some r) else (⟨[], 0⟩, none) := by
            unfold bgS
            rw [e]
            simp only
            rw [g, show nS (some z2) = (d, some r) from rS_good hd]
            simp only [Option.isSome_some, Bool.true_and]
          cases hq : bxB ⟨A, ((d : Nat) : Int)⟩ with
          | true =>
            rw [hq] at hB
            refine ⟨fun b r' h => ?_, fun h => ?_⟩
            · rw [if_pos rfl] at h; cases h; exact hB
            · rw [if_pos rfl] at h; cases h
          | false =>
            rw [hq] at hB
            refine ⟨fun b r' h => ?_, fun _ => hB⟩
            rw [if_neg (by decide)] at h; cases h
      · have hB := bgS_bad (o := some Z) (by rw [e]; exact g1)
        refine ⟨fun b r h => ?_, fun _ => hB⟩
        cases hd : nF z2 with
        | none => rw [hd] at h; cases h
        | some p =>
          rw [hd] at h
          simp only [bx_bad g2] at h
          cases h
theorem reX_put {e : En} (h : erB e = true) (rest : List Int) : reX (eL e ++ rest) = some (e, rest) := by
  have hh := h
  unfold erB tkB at hh
  simp only [Bool.and_eq_true, decide_eq_true_eq] at hh
  obtain ⟨⟨⟨⟨⟨h1, h2⟩, h3⟩, h4⟩, h5⟩, h6⟩ := hh
  obtain ⟨k, b, n, t, a⟩ := e
  simp only at h1 h2 h3 h4 h5 h6
  obtain ⟨b, rfl⟩ := Int.eq_ofNat_of_zero_le (show 0 ≤ b by omega)
  obtain ⟨n, rfl⟩ := Int.eq_ofNat_of_zero_le (show 0 ≤ n by omega)
  obtain ⟨t, rfl⟩ := Int.eq_ofNat_of_zero_le (show 0 ≤ t by omega)
  have e0 : eL ⟨k, (b : Int), (n : Int), (t : Int), a⟩ ++ rest = kL k ++ (putL 0 b ++ (putL 0 n ++ (putL 0 t ++ ([if a then 1 else 0] ++ rest)))) := by simp [eL]
  rw [e0]
  unfold reX
  rw [kgX_put h1]
  simp only [h1]
  rw [if_neg (by decide)]
  have e3 : n3 3 [] (putL 0 b ++ (putL 0 n ++ (putL 0 t ++ ([if a then 1 else 0] ++ rest)))) = some ([b, n, t], [if a then 1 else 0] ++ rest) := by
    rw [n3, nF_put b _ (by omega)]; simp only
    rw [if_neg (by omega), n3, nF_put n _ (by omega)]; simp only
    rw [if_neg (by omega), n3, nF_put t _ (by omega)]; simp only
    rw [if_neg (by omega)]; rfl
  rw [e3]
  simp only
  rw [fF_put]
  rfl
theorem rgX_put : ∀ (l A : List En) (rest : List Int), (∀ e ∈ l, erB e = true) → rgX l.length A (eLs l ++ rest) = some (A ++ l, rest)
  | [], A, rest, _ => by simp [rgX, eLs]
  | e :: l, A, rest, h => by
    rw [List.length_cons, rgX, eLs, List.append_assoc, reX_put (h e (List.mem_cons_self ..))]
    simp only
    rw [rgX_put l (A ++ [e]) rest fun x hx => h x (List.mem_cons_of_mem _ hx)]
    simp
theorem rbX_put {b : Bx} (hb : bxB b = true) (hd : 0 ≤ b.d) : rbX (bL b) = some (b, []) := by
  have hh := (bx_iff _).1 hb
  obtain ⟨l, d⟩ := b
  simp only at hh hd
  obtain ⟨d, rfl⟩ := Int.eq_ofNat_of_zero_le hd
  unfold rbX bL
  rw [nF_put l.length _ (by omega)]
  simp only
  rw [if_neg (by omega), rgX_put l [] _ hh.2.1]
  simp only [Int.toNat_natCast, List.nil_append]
  have e1 : putL 0 d = putL 0 d ++ [] := by simp
  rw [e1, nF_put d [] (by omega)]
  simp only [hb, if_true]
theorem bgS_put {b : Bx} (hb : bxB b = true) (hd : 0 ≤ b.d) : bgS (some (bL b)) = (b, some []) := (bg_two _).1 _ _ (rbX_put hb hd)
theorem by_strL (s : ByteArray) : Wi.By (strL s) := fun x hx => by
  unfold strL at hx
  obtain ⟨b, _, rfl⟩ := List.mem_map.1 hx
  have := b.toNat_lt
  omega
theorem by_flL (f : Bool) : Wi.By (flL f) := fun x hx => by
  rw [List.mem_singleton.1 hx]
  cases f <;> simp
theorem by_txL (s : ByteArray) (h : s.size ≤ 40000) : Wi.By (txL s) := (by_putL _ (by omega)).app (by_strL s)
theorem by_bL {b : Bx} (hb : bxB b = true) (hd : 0 ≤ b.d) : Wi.By (bL b) ∧ (bL b).length ≤ 30000 := by
  have hh := (bx_iff _).1 hb
  have hl := eLs_len b.l fun e he => er_eb (hh.2.1 e he)
  have l1 := putL_len 0 b.l.length (by omega)
  have l2 := putL_len 0 b.d.toNat (by omega)
  refine ⟨?_, by unfold bL; simp only [List.length_append]; omega⟩
  have hE : ∀ l : List En, (∀ e ∈ l, erB e = true) → Wi.By (eLs l) := fun l => by
    induction l with
    | nil => exact fun _ x hx => by cases hx
    | cons e r ih =>
      intro h
      have he := er_eb (h e (List.mem_cons_self ..))
      obtain ⟨⟨⟨k1, k2⟩, k3, k4⟩, -, b0, b1, n0, n1, t0, t1⟩ := he
      refine Wi.By.app ?_ (ih fun x hx => h x (List.mem_cons_of_mem _ hx))
      unfold eL kL
      exact (((by_txL _ (by omega)).app ((by_txL _ (by omega)).app ((by_flL _).app ((by_putL _ (by omega)).app (by_flL _)))))).app ((by_putL _ (by omega)).app ((by_putL _ (by omega)).app ((by_putL _ (by omega)).app (by_flL _))))
  unfold bL
  exact (by_putL _ (by omega)).app ((hE _ hh.2.1).app (by_putL _ (by omega)))
end Go.Proofs.YtfknbndmabogjaaDoor
