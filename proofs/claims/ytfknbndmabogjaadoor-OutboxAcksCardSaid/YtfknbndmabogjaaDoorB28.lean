/-
  The walks and the laws that the statement leans on, part 28.
-/
import Derived.Test.YtfknbndmabogjaaDoorB26
import Derived.Test.YtfknbndmabogjaaDoorB27
namespace Go.Proofs.YtfknbndmabogjaaDoor
open Go
set_option linter.unusedVariables false
set_option linter.unusedSimpArgs false
theorem getD_mdl {pre post : List AV} {a b : AV} {i : Nat} (h : i ≠ pre.length) : (pre ++ a :: post).getD i .any = (pre ++ b :: post).getD i .any := by
  simp only [List.getD_eq_getElem?_getD]
  by_cases hlt : i < pre.length
  · rw [List.getElem?_append_left hlt, List.getElem?_append_left hlt]
  · rw [List.getElem?_append_right (by omega), List.getElem?_append_right (by omega)]
    obtain ⟨q, hq⟩ : ∃ q, i - pre.length = q + 1 := ⟨i - pre.length - 1, by omega⟩
    rw [hq, List.getElem?_cons_succ, List.getElem?_cons_succ]
theorem getD_atm {pre post : List AV} {a : AV} : (pre ++ a :: post).getD pre.length .any = a := by
  simp only [List.getD_eq_getElem?_getD]
  rw [List.getElem?_append_right (Nat.le_refl _), Nat.sub_self]; rfl
theorem box_arg {f : Nat} {pre post : List AV} {d : Int} {l : List En} {n : Nat} {R : AV} (hn : l.length = n) (hl : n ≤ 100000)
    (h1 : ∀ X, ((∃ m D, X = .sl m D) ∨ (∃ ad cap, X = .lit (.slice (some ad) 0 cap))) → ACt Tryd.prog 76 [X] [] (fun r F' => ∃ x c : Nat, (n ≤ c ∧ c ≤ 9223372036854775807) ∧ r = ms x 0 n c ∧ F' = (x, .cells (ecs l) (c * 9) 38) :: []) → ACt Tryd.prog f (pre ++ .agg [X, iv .u64 d] :: post) [] (fun r F' => Vw F' r R))
    (h2 : l = [] → ∀ cap, ACt Tryd.prog f (pre ++ .agg [.lit (.slice none 0 cap), iv .u64 d] :: post) [] (fun r F' => Vw F' r R)) :
    ACt Tryd.prog f (pre ++ .agg [.sl n (ecs l), iv .u64 d] :: post) [] (Fn R) := by
  by_cases hn1 : 1 ≤ n
  · exact ACt.fzV (h1 _ (.inl ⟨_, _, rfl⟩) (clone_rowS l n hn hn1 hl))
  obtain rfl : n = 0 := by omega
  obtain rfl : l = [] := List.eq_nil_of_length_eq_zero hn
  intro cx vs hK hKT hw hs hv
  have h0 := hv pre.length (by simp)
  rw [getD_atm] at h0
  obtain ⟨a, cap, e, hm⟩ : ∃ a cap, Rep cx.w0 cx.I (vs.getD pre.length undef) (.agg [.lit (.slice a 0 cap), iv .u64 d]) ∧ cap ≤ maxLen := by
    generalize vs.getD pre.length undef = u at h0
    cases h0 with
    | agg us cs hs r =>
      have r0 := r 0 (by simp)
      have r1 := r 1 (by simp)
      simp only [List.getElem_cons_zero, List.getElem_cons_succ] at r0 r1
      generalize hu : us.getD 0 undef = u0 at r0
      cases r0 with
      | sl a n cap cs g hn hm h r =>
        refine ⟨a, cap, .agg us _ hs fun i hi => ?_, hm⟩
        match i, hi with
        | 0, _ => rw [hu]; exact .lit _
        | 1, _ => exact r1
  have hv' : ∀ i, i < (pre ++ .agg [.lit (.slice a 0 cap), iv .u64 d] :: post).length → Rep cx.w0 cx.I (vs.getD i undef) ((pre ++ .agg [.lit (.slice a 0 cap), iv .u64 d] :: post).getD i .any) := fun i hi => by
    by_cases hip : i = pre.length
    · subst hip; rw [getD_atm]; exact e
    · rw [getD_mdl hip]; exact hv i (by simpa using hi)
  have hs' : vs.size = (pre ++ .agg [.lit (.slice a 0 cap), iv .u64 d] :: post).length := by rw [hs]; simp
  cases a with
  | none => exact ACt.fzV (h2 rfl cap) cx vs hK hKT hw hs' hv'
  | some ad => exact ACt.fzV (h1 _ (.inr ⟨_, _, rfl⟩) (clone_rowZ ad cap hm)) cx vs hK hKT hw hs' hv'
theorem ecs_set8 : ∀ (l : List En) (j : Nat) (h : j < l.length) (v : Bool), (ecs l).set (j * 9 + 8) (bv v) = ecs (l.set j ⟨l[j].k, l[j].b, l[j].n, l[j].t, v⟩)
  | e :: l, 0, _, v => rfl
  | e :: l, j + 1, h, v => by
    have := ecs_set8 l j (by simpa using h) v
    rw [show (j + 1) * 9 + 8 = (j * 9 + 8) + 9 by omega]
    simp only [ecs, List.set_cons_succ, List.getElem_cons_succ, this]
theorem ecs_set6 : ∀ (l : List En) (j : Nat) (h : j < l.length) (v : Int), (ecs l).set (j * 9 + 6) (iv .i64 v) = ecs (l.set j ⟨l[j].k, l[j].b, v, l[j].t, l[j].a⟩)
  | e :: l, 0, _, v => rfl
  | e :: l, j + 1, h, v => by
    have := ecs_set6 l j (by simpa using h) v
    rw [show (j + 1) * 9 + 6 = (j * 9 + 6) + 9 by omega]
    simp only [ecs, List.set_cons_succ, List.getElem_cons_succ, this]
abbrev dEn : En := ⟨⟨.empty, .empty, false, 0, false⟩, 0, 0, 0, false⟩
def akN (n : Nt) (e : En) (now : Int) : Int := IntKind.i64.wrap ((if now < e.b then e.b else now) + n.rep)
noncomputable def akC (n : Nt) (b : Bx) (k : Ky) (now : Int) : Int := if !(ntB n && bxB b && tkB now) then 2 else if ixE b.l k 0 < 0 then 7 else if (b.l.getD (ixE b.l k 0).toNat dEn).a then 18 else 0
noncomputable def akB (n : Nt) (b : Bx) (k : Ky) (now : Int) (f : Bool) : Bx := if !(ntB n && bxB b && tkB now) then b else if ixE b.l k 0 < 0 then b else if (b.l.getD (ixE b.l k 0).toNat dEn).a then b
  else if f && !k.s && decide (0 < n.rep) then ⟨b.l.set (ixE b.l k 0).toNat ⟨(b.l.getD (ixE b.l k 0).toNat dEn).k, (b.l.getD (ixE b.l k 0).toNat dEn).b, akN n (b.l.getD (ixE b.l k 0).toNat dEn) now, (b.l.getD (ixE b.l k 0).toNat dEn).t, true⟩, b.d⟩
  else ⟨b.l.take (ixE b.l k 0).toNat ++ b.l.drop ((ixE b.l k 0).toNat + 1), b.d⟩
noncomputable def akR (n : Nt) (b : Bx) (k : Ky) (now : Int) (f : Bool) : AV := .tup [bxv (akB n b k now f), iv .i64 (akC n b k now)]
theorem ak_arg {n : Nt} {b : Bx} {k : Ky} {now : Int} {f : Bool} (h : (ntB n && bxB b && tkB now) = false) : akR n b k now f = .tup [.agg [.sl b.l.length (ecs b.l), iv .u64 b.d], iv .i64 2] := by
  unfold akR akB akC; rw [h]; rfl
theorem ak_name {n : Nt} {b : Bx} {k : Ky} {now : Int} {f : Bool} (h : (ntB n && bxB b && tkB now) = true) (h2 : ixE b.l k 0 < 0) : akR n b k now f = .tup [.agg [.sl b.l.length (ecs b.l), iv .u64 b.d], iv .i64 7] := by
  unfold akR akB akC; rw [h, if_pos h2, if_pos h2]; rfl
theorem ak_known {n : Nt} {b : Bx} {k : Ky} {now : Int} {f : Bool} {j : Nat} {e : En} (h : (ntB n && bxB b && tkB now) = true) (h2 : ixE b.l k 0 = (j : Int)) (h3 : b.l.getD j dEn = e) (h4 : e.a = true) : akR n b k now f = .tup [.agg [.sl b.l.length (ecs b.l), iv .u64 b.d], iv .i64 18] := by
  have hj0 : ¬ ((j : Int) < 0) := by omega
  unfold akR akB akC
  simp only [h, h2, h3, h4, hj0, Bool.not_true, Bool.false_eq_true, ↓reduceIte, Int.toNat_natCast]
theorem ak_keep {n : Nt} {b : Bx} {k : Ky} {now : Int} {f : Bool} {j : Nat} {e : En} (h : (ntB n && bxB b && tkB now) = true) (h2 : ixE b.l k 0 = (j : Int)) (hj : j < b.l.length) (h3 : b.l.getD j dEn = e) (h4 : e.a = false) (h5 : (f && !k.s && decide (0 < n.rep)) = true) :
    akR n b k now f = .tup [.agg [.sl b.l.length (((ecs b.l).set (j * 9 + 8) (bv true)).set (j * 9 + 6) (iv .i64 (akN n e now))), iv .u64 b.d], iv .i64 0] := by
  have hj0 : ¬ ((j : Int) < 0) := by omega
  have h3' : b.l[j] = e := by rw [← h3, List.getD_eq_getElem?_getD, List.getElem?_eq_getElem hj]; rfl
  unfold akR akB akC
  simp only [h, h2, h3, h4, h5, hj0, Bool.not_true, Bool.false_eq_true, ↓reduceIte, Int.toNat_natCast]
  rw [ecs_set8 _ _ hj, ecs_set6 _ _ (by simpa using hj)]
  simp only [List.getElem_set_self, List.set_set, h3']
  simp only [bxv]
  rw [show (b.l.set j _).length = b.l.length from List.length_set ..]
theorem ak_del {n : Nt} {b : Bx} {k : Ky} {now : Int} {f : Bool} {j : Nat} {e : En} (h : (ntB n && bxB b && tkB now) = true) (h2 : ixE b.l k 0 = (j : Int)) (hj : j < b.l.length) (h3 : b.l.getD j dEn = e) (h4 : e.a = false) (h5 : (f && !k.s && decide (0 < n.rep)) = false) :
    akR n b k now f = .tup [.agg [.sl (b.l.length - 1) ((ecs b.l).take (j * 9) ++ (ecs b.l).drop ((j + 1) * 9)), iv .u64 b.d], iv .i64 0] := by
  have hj0 : ¬ ((j : Int) < 0) := by omega
  unfold akR akB akC
  simp only [h, h2, h3, h4, h5, hj0, Bool.not_true, Bool.false_eq_true, ↓reduceIte, Int.toNat_natCast]
  rw [ecs_take _ _ (by omega), ecs_drop' _ _ (by omega), ← ecs_app]
  simp only [bxv]
  rw [show (b.l.take j ++ b.l.drop (j + 1)).length = b.l.length - 1 by simp; omega]
end Go.Proofs.YtfknbndmabogjaaDoor
