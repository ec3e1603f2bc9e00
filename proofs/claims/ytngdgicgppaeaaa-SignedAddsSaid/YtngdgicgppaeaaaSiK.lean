/-
  Pairs as they come are pairs of lists.
-/
import Derived.Test.YtngdgicgppaeaaaSiJ
namespace Go.Proofs.Ytngdgicgppaeaaa
open Go
set_option linter.unusedVariables false
set_option linter.unusedSimpArgs false

theorem rep_pair {w : World} {I : Nat → Prop} {v : Value} {a b a' b' : AV} (h : Rep w I v (.agg [a, b])) (ha : ∀ u, Rep w I u a → Rep w I u a') (hb : ∀ u, Rep w I u b → Rep w I u b') : Rep w I v (.agg [a', b']) := by
  obtain ⟨xs, rfl, hs, hr⟩ : ∃ xs, v = .agg xs ∧ xs.size = [a, b].length ∧ ∀ i (hi : i < [a, b].length), Rep w I (xs.getD i undef) [a, b][i] := by cases h; exact ⟨_, rfl, by assumption, by assumption⟩
  refine Rep.agg _ _ hs (fun j hj => ?_)
  match j, hj with
  | 0, _ => exact ha _ (hr 0 (by simp))
  | 1, _ => exact hb _ (hr 1 (by simp))
theorem rep_prN (b : Bool) (n : Nat) (w : World) (I : Nat → Prop) (v : Value) (h : Rep w I v (prN b n)) : Rep w I v (prA (upL b n) (dnL b n)) := by
  cases b
  · show Rep w I v (.agg [.sl (bitsN n 128).length (bl (bitsN n 128)), .sl 0 []])
    rw [bitsN_len]
    exact rep_pair (a := .sl 128 (bl (bitsN n 128))) (b := nilS) h (fun _ h => h) fun _ h => Rep.nils h
  · show Rep w I v (.agg [.sl 0 [], .sl (bitsN n 128).length (bl (bitsN n 128))])
    rw [bitsN_len]
    exact rep_pair (a := nilS) (b := .sl 128 (bl (bitsN n 128))) h (fun _ h => Rep.nils h) fun _ h => h
theorem ACt.two {P : Program} {f : FuncId} {x y x' y' : AV} {F : Hp} {post : AV → Hp → Prop} (h : ACt P f [x, y] F post) (hx : ∀ w I v, Rep w I v x' → Rep w I v x) (hy : ∀ w I v, Rep w I v y' → Rep w I v y) : ACt P f [x', y'] F post := by
  refine h.args rfl fun i w I v hr => ?_
  match i with
  | 0 => exact hx w I v hr
  | 1 => exact hy w I v hr
  | k + 2 => exact hr
theorem ACt.one1 {P : Program} {f : FuncId} {x x' : AV} {F : Hp} {post : AV → Hp → Prop} (h : ACt P f [x] F post) (hx : ∀ w I v, Rep w I v x' → Rep w I v x) : ACt P f [x'] F post := by
  refine h.args rfl fun i w I v hr => ?_
  match i with
  | 0 => exact hx w I v hr
  | k + 1 => exact hr
theorem add17N (b1 b2 : Bool) (n m : Nat) : ACt Try.prog 17 [prN b1 n, prN b2 m] [] (Fn (prA (plusF (upL b1 n) (upL b2 m)) (plusF (dnL b1 n) (dnL b2 m)))) :=
  (add17 _ _ _ _ (by have := upL_len b1 n; omega) (by have := dnL_len b1 n; omega) (by have := upL_len b2 m; omega) (by have := dnL_len b2 m; omega)).two (rep_prN b1 n) (rep_prN b2 m)
theorem cmp19N (b1 b2 : Bool) (n m : Nat) (hn : n < 340282366920938463463374607431768211456) (hm : m < 340282366920938463463374607431768211456) :
    ACt Try.prog 19 [prN b1 n, prN b2 m] [] (Fn (iv .i64 (cmpN (upN b1 n + dnN b2 m) (dnN b1 n + upN b2 m)))) :=
  (cmp19 _ _ _ _ _ _ (by have := upL_len b1 n; omega) (by have := dnL_len b1 n; omega) (by have := upL_len b2 m; omega) (by have := dnL_len b2 m; omega)
    (by rw [upL_val b1 n hn, dnL_val b2 m hm]) (by rw [dnL_val b1 n hn, upL_val b2 m hm])).two (rep_prN b1 n) (rep_prN b2 m)
end Go.Proofs.Ytngdgicgppaeaaa
