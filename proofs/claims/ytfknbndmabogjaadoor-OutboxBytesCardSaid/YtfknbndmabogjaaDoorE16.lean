/-
  The walks and the laws that the statement leans on, part 16.
-/
import Derived.Test.YtfknbndmabogjaaDoorE15
namespace Go.Proofs.YtfknbndmabogjaaDoor
open Go
set_option linter.unusedVariables false
set_option linter.unusedSimpArgs false
structure En where
  k : Ky
  b : Int
  n : Int
  t : Int
  a : Bool
abbrev ec (e : En) (r : List AV) : List AV := .lit (.string e.k.g) :: .lit (.string e.k.r) :: bv e.k.p :: iv .u64 e.k.e :: bv e.k.s :: iv .i64 e.b :: iv .i64 e.n :: iv .i64 e.t :: bv e.a :: r
abbrev ev (e : En) : AV := .agg [.lit (.string e.k.g), .lit (.string e.k.r), bv e.k.p, iv .u64 e.k.e, bv e.k.s, iv .i64 e.b, iv .i64 e.n, iv .i64 e.t, bv e.a]
def ecs : List En → List AV
  | [] => []
  | e :: l => .lit (.string e.k.g) :: .lit (.string e.k.r) :: bv e.k.p :: iv .u64 e.k.e :: bv e.k.s :: iv .i64 e.b :: iv .i64 e.n :: iv .i64 e.t :: bv e.a :: ecs l
theorem ecs_len : ∀ l, (ecs l).length = l.length * 9
  | [] => rfl
  | k :: r => by simp only [ecs, List.length_cons, ecs_len r]; omega
theorem ecs_drop : ∀ (l : List En) (i : Nat) (h : i < l.length), (ecs l).drop (i * 9) = ec l[i] (ecs (l.drop (i + 1)))
  | k :: r, 0, _ => rfl
  | k :: r, i + 1, h => by
    have := ecs_drop r i (by simpa using h)
    rw [show (i + 1) * 9 = i * 9 + 9 by omega]
    simpa [ecs] using this
theorem ecs_app (l m : List En) : ecs (l ++ m) = ecs l ++ ecs m := by
  induction l with
  | nil => rfl
  | cons k r ih => simp [ecs, ih]
theorem ecs_one (l : List En) : (ecs l).all oneC = true := by
  induction l with
  | nil => rfl
  | cons k r ih => simp only [ecs, List.all_cons, ih, oneC, Value.oneCell', Bool.and_self, Bool.true_and]
theorem fe38 : flatEq Tryd.prog 38 [3, 3, 2, 1, 2, 1, 1, 1, 2] := flatEq_of2 (by kernel_rfl)
def eeqB (a b : En) : Bool := a.k.g == b.k.g && (a.k.r == b.k.r && (a.k.p == b.k.p && (a.k.e == b.k.e && (a.k.s == b.k.s && (a.b == b.b && (a.n == b.n && (a.t == b.t && a.a == b.a)))))))
theorem eeqB_iff (a b : En) : eeqB a b = true ↔ a = b := by
  obtain ⟨⟨ag, ar, ap, ae, aS⟩, ab, an, at_, aa⟩ := a
  obtain ⟨⟨bg, br, bp, be, bs⟩, bb, bn, bt, ba⟩ := b
  simp [eeqB, ba_iff]
  constructor
  · rintro ⟨h1, h2, h3, h4, h5, h6, h7, h8, h9⟩; exact ⟨⟨h1, h2, h3, h4, h5⟩, h6, h7, h8, h9⟩
  · rintro ⟨⟨h1, h2, h3, h4, h5⟩, h6, h7, h8, h9⟩; exact ⟨h1, h2, h3, h4, h5, h6, h7, h8, h9⟩
structure Bx where
  l : List En
  d : Int
abbrev bxv (b : Bx) : AV := .agg [.sl b.l.length (ecs b.l), iv .u64 b.d]
structure Nt where
  room : Int
  res : Int
  first : Int
  cap : Int
  rep : Int
abbrev ntv (n : Nt) : AV := .agg [iv .i64 n.room, iv .i64 n.res, iv .i64 n.first, iv .i64 n.cap, iv .i64 n.rep]
def ntB (n : Nt) : Bool := decide (1 ≤ n.room ∧ n.room ≤ 64 ∧ 0 ≤ n.res ∧ n.res ≤ n.room ∧ 1 ≤ n.first ∧ n.first ≤ 86400 ∧ n.first ≤ n.cap ∧ n.cap ≤ 604800 ∧ 0 ≤ n.rep ∧ n.rep ≤ 2592000)
def tkB (n : Int) : Bool := decide (0 ≤ n ∧ n ≤ 253402300799)
def ixE : List En → Ky → Int → Int
  | [], _, _ => -1
  | e :: r, k, i => if keqB e.k k then i else ixE r k (i + 1)
theorem ixE_drop (l : List En) (k : Ky) {i : Nat} (h : i < l.length) : ixE (l.drop i) k (i : Int) = if keqB l[i].k k then (i : Int) else ixE (l.drop (i + 1)) k ((i + 1 : Nat) : Int) := by
  rw [List.drop_eq_getElem_cons h]
  rfl
noncomputable def erB (e : En) : Bool := krB e.k && tkB e.b && decide (e.n ≥ e.b) && decide (e.n ≤ 253404892799) && decide (e.t ≥ 0) && decide (e.t ≤ 1000000)
noncomputable def rgB (l : List En) : List En → Nat → Bool
  | [], _ => true
  | e :: r, i => erB e && (ixE l e.k 0 == (i : Int)) && rgB l r (i + 1)
noncomputable def bxB (b : Bx) : Bool := decide (b.l.length ≤ 64) && decide (b.d ≤ 9223372036854775807) && rgB b.l b.l 0
theorem rg_drop (l : List En) {i : Nat} (h : i < l.length) : rgB l (l.drop i) i = (erB l[i] && (ixE l l[i].k 0 == (i : Int)) && rgB l (l.drop (i + 1)) (i + 1)) := by
  rw [List.drop_eq_getElem_cons h]; rfl
theorem rg_end (l : List En) {i : Nat} (h : l.length ≤ i) : rgB l (l.drop i) i = true := by
  rw [List.drop_eq_nil_of_le h]; rfl
def rmB (n : Nt) (b : Bx) (k : Ky) : Bool := decide ((b.l.length : Int) < if k.p then n.room else n.room - n.res)
noncomputable def adC (n : Nt) (b : Bx) (k : Ky) (now : Int) : Int := if !(ntB n && bxB b && krB k && tkB now) then 2 else if 0 ≤ ixE b.l k 0 then 18 else if !rmB n b k then 11 else 0
noncomputable def adB (n : Nt) (b : Bx) (k : Ky) (now : Int) : Bx := if !(ntB n && bxB b && krB k && tkB now) then b else if 0 ≤ ixE b.l k 0 then b else if !rmB n b k then ⟨b.l, if b.d < 9223372036854775807 then b.d + 1 else b.d⟩ else ⟨b.l ++ [⟨k, now, now, 0, false⟩], b.d⟩
end Go.Proofs.YtfknbndmabogjaaDoor
