/-
  The walks and the laws that the statement leans on, part 4.
-/
import Derived.ChangeReads
import Derived.Laws.Externs
import Derived.Test.YtjdjpgjjnajjhaaDoorProg
import Derived.LaidMore
import Derived.OpenShut
import Derived.MakeChecks
import Derived.Test.YtjdjpgjjnajjhaaDoorZ3
namespace Go.Proofs.YtjdjpgjjnajjhaaDoor
open Go
set_option linter.unusedSimpArgs false
/-- To be simplified next: the mark that the walk's driver leaves. -/
structure Sm (p : Prop) : Prop where
  out : p
theorem maxLen_eq : maxLen = 9223372036854775807 := rfl
theorem World.cell?_lt {w : World} {a : Addr} {v : Value} (h : w.cell? a = some v) : a.block < w.heap.size ∧ a.spot = none := by
  unfold World.cell? at h
  split at h
  · rename_i hb
    refine ⟨(Array.getElem?_eq_some_iff.1 hb).1, ?_⟩
    split at h
    · cases h
    · rename_i hs; cases hx : a.spot with
      | none => rfl
      | some _ => simp [hx] at hs
  · cases h
/-- A row of integers that came in is a plain list of numbers. -/
theorem Rep.row {k : IntKind} {w : World} {a : Option Addr} {len cap : Nat} {zs : List Int}
    (h : (a = none ∧ len = 0 ∧ cap = 0 ∧ zs = []) ∨
      ∃ x, a = some x ∧ len ≤ cap ∧ cap ≤ maxLen ∧ zs.length = cap ∧ (∀ i, i < zs.length → w.cell? (x.add i) = some (.int k (zs.getD i 0))) ∧ ∀ n ∈ zs, (Lit.int k n).wf = true) :
    Rep w (fun b => b < w.heap.size) (.slice a len cap) (.slz k (zs.take len)) := by
  rcases h with ⟨rfl, rfl, rfl, rfl⟩ | ⟨⟨blk, off, sp⟩, rfl, hl, hm, hz, hc, _⟩
  · exact Rep.slz none k [] 0 (by simp) (by simp) (.inl rfl)
  · have e : (zs.take len).length = len := by simp; omega
    have : Rep w (fun b => b < w.heap.size) (.slice (some ⟨blk, off, sp⟩) (zs.take len).length cap) (.slz k (zs.take len)) := by
      refine Rep.slz _ k _ cap (by omega) hm ?_
      by_cases h0 : len = 0
      · exact .inl (by rw [e]; exact h0)
      · have h1 := World.cell?_lt (hc 0 (by omega))
        simp only [Addr.add, if_pos] at h1
        obtain ⟨h2, rfl⟩ := h1
        refine .inr ⟨blk, off, rfl, h2, fun i hi => ?_⟩
        rw [e] at hi
        have := hc i (by omega)
        have ea : (⟨blk, off, none⟩ : Addr).add i = ⟨blk, off + i, none⟩ := by
          unfold Addr.add
          split
          · subst i; rfl
          · rfl
        rw [ea] at this
        rw [this]
        simp [List.getD, List.getElem?_take, hi]
    rw [e] at this
    exact this
/-- The bytes of a list, as the program's integers. -/
def ub (bs : List UInt8) : List Int := bs.map fun b => (b.toNat : Int)
theorem ub_getD (bs : List UInt8) (i : Nat) : (ub bs).getD i 0 = ((bs.getD i 0).toNat : Int) := by
  unfold ub
  simp only [List.getD, List.getElem?_map]
  cases bs[i]? <;> rfl
/-- an obligation, to be met at once -/
structure Ob (p : Prop) : Prop where
  out : p
theorem ExG.no {P : Program} {f : FuncId} {args : List AV} {H : Hp} {K : AV → Prop} (hk : K .any) : ExG false P f args H K := ExG.mk (x := .any) (fun hg => absurd hg (by decide)) hk
theorem ExG.mkJ {c : Bool} {P : Program} {f : FuncId} {args : List AV} {H : Hp} {K : AV → Prop} {x : AV} {r : Prop} (h : c = true → ACt P f args [] (Fn x)) (hk : K x) : ExG c P f args H K ∨ r := .inl (ExG.mk h hk)
theorem ExG.mkI {c : Bool} {P : Program} {f : FuncId} {args : List AV} {H : Hp} {K : AV → Prop} {x : AV} {r ob : Prop} (ho : ob) (h : c = true → ACt P f args [] (Fn x)) (hk : K x) : (ob ∧ ExG c P f args H K) ∨ r := .inl ⟨ho, ExG.mk h hk⟩
/-- the lemmas that each walk leans on, in one -/
theorem ZK : (((((((type_of% @maxLen_eq) ∧ ((type_of% @List.length_append.{0}) ∧ (type_of% @Nat.min_def))) ∧ ((type_of% @repA_one) ∧ ((type_of% @fresh_nil) ∧ (type_of% @fresh_cons)))) ∧ (((type_of% @freshBut_nil) ∧ ((type_of% @freshBut_cons) ∧ (type_of% @intsA_map))) ∧ ((type_of% @ne_eq.{1}) ∧ ((type_of% @true_implies) ∧ (type_of% @forall_const.{1}))))) ∧ ((((type_of% @List.length_map.{0,0}) ∧ ((type_of% @List.map_append.{0,0}) ∧ (type_of% @drop_getD0))) ∧ ((type_of% @Int.toNat_natCast) ∧ ((type_of% @List.length_drop.{0}) ∧ (type_of% @List.length_take.{0})))) ∧ (((type_of% @Int.cast_ofNat_Int) ∧ ((type_of% @List.size_toArray.{0}) ∧ (type_of% @List.length_cons.{0}))) ∧ (((type_of% @List.length_nil.{0}) ∧ (type_of% @List.getElem?_toArray.{0})) ∧ ((type_of% @List.getElem?_cons_zero.{0}) ∧ (type_of% @List.getElem?_cons_succ.{0})))))) ∧ (((((type_of% @Option.bind_some.{0,0}) ∧ ((type_of% @Option.map_some.{0,0}) ∧ (type_of% @Option.map_none.{0,0}))) ∧ ((type_of% @Option.isSome_some.{0}) ∧ ((type_of% @if_true.{1}) ∧ (type_of% @if_false.{1})))) ∧ (((type_of% @true_and) ∧ ((type_of% @and_true) ∧ (type_of% @ite_true.{1}))) ∧ (((type_of% @ite_false.{1}) ∧ (type_of% @Bool.true_and)) ∧ ((type_of% @Bool.and_true) ∧ (type_of% @Bool.not_true))))) ∧ ((((type_of% @Bool.not_false) ∧ ((type_of% @Bool.or_false) ∧ (type_of% @Bool.false_or))) ∧ ((type_of% @Bool.true_or) ∧ ((type_of% @Bool.or_true) ∧ (type_of% @Bool.false_and)))) ∧ (((type_of% @Bool.and_false) ∧ ((type_of% @List.map_cons.{0,0}) ∧ (type_of% @List.map_nil.{0,0}))) ∧ (((type_of% @List.mem_cons.{0}) ∧ (type_of% @List.not_mem_nil.{0})) ∧ ((type_of% @or_false) ∧ (type_of% @false_or))))))) ∧ ((((((type_of% @true_or) ∧ ((type_of% @or_true) ∧ (type_of% @forall_eq_or_imp.{1}))) ∧ ((type_of% @forall_eq.{1}) ∧ ((type_of% @List.all_cons.{0}) ∧ (type_of% @List.all_nil.{0})))) ∧ (((type_of% @List.append_nil.{0}) ∧ ((type_of% @List.nil_append.{0}) ∧ (type_of% @List.cons_append.{0}))) ∧ (((type_of% @List.getD_cons_zero.{0}) ∧ (type_of% @List.getD_cons_succ.{0})) ∧ ((type_of% @List.take_succ_cons.{0}) ∧ (type_of% @List.take_zero.{0}))))) ∧ ((((type_of% @List.drop_succ_cons.{0}) ∧ ((type_of% @List.drop_zero.{0}) ∧ (type_of% @List.set_cons_zero.{0}))) ∧ ((type_of% @List.set_cons_succ.{0}) ∧ ((type_of% @List.replicate_succ.{0}) ∧ (type_of% @List.replicate_zero.{0})))) ∧ (((type_of% @Nat.add_zero) ∧ ((type_of% @Nat.zero_add) ∧ (type_of% @Nat.mul_one))) ∧ (((type_of% @Nat.one_mul) ∧ (type_of% @Int.toNat_zero)) ∧ ((type_of% @Nat.le_refl) ∧ (type_of% @Int.le_refl)))))) ∧ (((((type_of% @Option.some.injEq.{0}) ∧ ((type_of% @Go.TypeDesc.slice.injEq) ∧ (type_of% @Go.TypeDesc.int.injEq))) ∧ ((type_of% @List.length_replicate.{0}) ∧ ((type_of% @Go.TypeDesc.pointer.injEq) ∧ (type_of% @exists_eq.{1})))) ∧ (((type_of% @exists_eq_left.{1}) ∧ ((type_of% @exists_eq_left'.{1}) ∧ (type_of% @exists_eq'.{1}))) ∧ (((type_of% @implies_true.{1}) ∧ (type_of% @beq_true)) ∧ ((type_of% @beq_false) ∧ (type_of% @and_self))))) ∧ ((((type_of% @beq_self_eq_true.{0}) ∧ ((type_of% @bne_self_eq_false.{0}) ∧ (type_of% @decide_true))) ∧ ((type_of% @decide_false) ∧ ((type_of% @cond_true.{1}) ∧ (type_of% @cond_false.{1})))) ∧ (((type_of% @Bool.not_eq_true') ∧ ((type_of% @Bool.not_eq_false') ∧ (type_of% @imp_self))) ∧ (((type_of% @Bool.cond_false_right) ∧ (type_of% @Bool.cond_true_right)) ∧ ((type_of% @Bool.cond_true_left) ∧ (type_of% @Bool.cond_false_left)))))))) :=
  ⟨⟨⟨⟨⟨⟨@maxLen_eq, ⟨@List.length_append.{0}, @Nat.min_def⟩⟩, ⟨@repA_one, ⟨@fresh_nil, @fresh_cons⟩⟩⟩, ⟨⟨@freshBut_nil, ⟨@freshBut_cons, @intsA_map⟩⟩, ⟨@ne_eq.{1}, ⟨@true_implies, @forall_const.{1}⟩⟩⟩⟩, ⟨⟨⟨@List.length_map.{0,0}, ⟨@List.map_append.{0,0}, @drop_getD0⟩⟩, ⟨@Int.toNat_natCast, ⟨@List.length_drop.{0}, @List.length_take.{0}⟩⟩⟩, ⟨⟨@Int.cast_ofNat_Int, ⟨@List.size_toArray.{0}, @List.length_cons.{0}⟩⟩, ⟨⟨@List.length_nil.{0}, @List.getElem?_toArray.{0}⟩, ⟨@List.getElem?_cons_zero.{0}, @List.getElem?_cons_succ.{0}⟩⟩⟩⟩⟩, ⟨⟨⟨⟨@Option.bind_some.{0,0}, ⟨@Option.map_some.{0,0}, @Option.map_none.{0,0}⟩⟩, ⟨@Option.isSome_some.{0}, ⟨@if_true.{1}, @if_false.{1}⟩⟩⟩, ⟨⟨@true_and, ⟨@and_true, @ite_true.{1}⟩⟩, ⟨⟨@ite_false.{1}, @Bool.true_and⟩, ⟨@Bool.and_true, @Bool.not_true⟩⟩⟩⟩, ⟨⟨⟨@Bool.not_false, ⟨@Bool.or_false, @Bool.false_or⟩⟩, ⟨@Bool.true_or, ⟨@Bool.or_true, @Bool.false_and⟩⟩⟩, ⟨⟨@Bool.and_false, ⟨@List.map_cons.{0,0}, @List.map_nil.{0,0}⟩⟩, ⟨⟨@List.mem_cons.{0}, @List.not_mem_nil.{0}⟩, ⟨@or_false, @false_or⟩⟩⟩⟩⟩⟩, ⟨⟨⟨⟨⟨@true_or, ⟨@or_true, @forall_eq_or_imp.{1}⟩⟩, ⟨@forall_eq.{1}, ⟨@List.all_cons.{0}, @List.all_nil.{0}⟩⟩⟩, ⟨⟨@List.append_nil.{0}, ⟨@List.nil_append.{0}, @List.cons_append.{0}⟩⟩, ⟨⟨@List.getD_cons_zero.{0}, @List.getD_cons_succ.{0}⟩, ⟨@List.take_succ_cons.{0}, @List.take_zero.{0}⟩⟩⟩⟩, ⟨⟨⟨@List.drop_succ_cons.{0}, ⟨@List.drop_zero.{0}, @List.set_cons_zero.{0}⟩⟩, ⟨@List.set_cons_succ.{0}, ⟨@List.replicate_succ.{0}, @List.replicate_zero.{0}⟩⟩⟩, ⟨⟨@Nat.add_zero, ⟨@Nat.zero_add, @Nat.mul_one⟩⟩, ⟨⟨@Nat.one_mul, @Int.toNat_zero⟩, ⟨@Nat.le_refl, @Int.le_refl⟩⟩⟩⟩⟩, ⟨⟨⟨⟨@Option.some.injEq.{0}, ⟨@Go.TypeDesc.slice.injEq, @Go.TypeDesc.int.injEq⟩⟩, ⟨@List.length_replicate.{0}, ⟨@Go.TypeDesc.pointer.injEq, @exists_eq.{1}⟩⟩⟩, ⟨⟨@exists_eq_left.{1}, ⟨@exists_eq_left'.{1}, @exists_eq'.{1}⟩⟩, ⟨⟨@implies_true.{1}, @beq_true⟩, ⟨@beq_false, @and_self⟩⟩⟩⟩, ⟨⟨⟨@beq_self_eq_true.{0}, ⟨@bne_self_eq_false.{0}, @decide_true⟩⟩, ⟨@decide_false, ⟨@cond_true.{1}, @cond_false.{1}⟩⟩⟩, ⟨⟨@Bool.not_eq_true', ⟨@Bool.not_eq_false', @imp_self⟩⟩, ⟨⟨@Bool.cond_false_right, @Bool.cond_true_right⟩, ⟨@Bool.cond_true_left, @Bool.cond_false_left⟩⟩⟩⟩⟩⟩⟩
/-- those that a condition is read with -/
theorem ZC : (((((type_of% @decide_eq_true_eq) ∧ (type_of% @decide_eq_false_iff_not)) ∧ ((type_of% @Bool.and_eq_true) ∧ ((type_of% @Bool.or_eq_true) ∧ (type_of% @Bool.and_eq_false_iff)))) ∧ (((type_of% @Bool.or_eq_false_iff) ∧ (type_of% @Bool.not_eq_true')) ∧ ((type_of% @Bool.not_eq_false') ∧ ((type_of% @Int.not_lt) ∧ (type_of% @Int.not_le))))) ∧ ((((type_of% @false_and) ∧ (type_of% @and_false)) ∧ ((type_of% @false_or) ∧ ((type_of% @or_false) ∧ (type_of% @true_and)))) ∧ (((type_of% @and_true) ∧ (type_of% @true_or)) ∧ ((type_of% @or_true) ∧ ((type_of% @not_true_eq_false) ∧ (type_of% @not_false_eq_true)))))) :=
  ⟨⟨⟨⟨@decide_eq_true_eq, @decide_eq_false_iff_not⟩, ⟨@Bool.and_eq_true, ⟨@Bool.or_eq_true, @Bool.and_eq_false_iff⟩⟩⟩, ⟨⟨@Bool.or_eq_false_iff, @Bool.not_eq_true'⟩, ⟨@Bool.not_eq_false', ⟨@Int.not_lt, @Int.not_le⟩⟩⟩⟩, ⟨⟨⟨@false_and, @and_false⟩, ⟨@false_or, ⟨@or_false, @true_and⟩⟩⟩, ⟨⟨@and_true, @true_or⟩, ⟨@or_true, ⟨@not_true_eq_false, @not_false_eq_true⟩⟩⟩⟩⟩
/-- and equations -/
theorem ZD : (((type_of% @beq_iff_eq.{0}) ∧ ((type_of% @beq_eq_false_iff_ne.{0}) ∧ (type_of% @bne_iff_ne.{0}))) ∧ ((type_of% @bne_eq_false_iff_eq.{0}) ∧ ((type_of% @ne_eq.{1}) ∧ (type_of% @Decidable.not_not)))) :=
  ⟨⟨@beq_iff_eq.{0}, ⟨@beq_eq_false_iff_ne.{0}, @bne_iff_ne.{0}⟩⟩, ⟨@bne_eq_false_iff_eq.{0}, ⟨@ne_eq.{1}, @Decidable.not_not⟩⟩⟩
/-- those that an obligation is read with -/
theorem ZE : ((((type_of% @decide_eq_true_eq) ∧ ((type_of% @decide_eq_false_iff_not) ∧ (type_of% @Bool.and_eq_true))) ∧ ((type_of% @Bool.or_eq_true) ∧ ((type_of% @Bool.and_eq_false_iff) ∧ (type_of% @Bool.or_eq_false_iff)))) ∧ (((type_of% @bne_iff_ne.{0}) ∧ ((type_of% @bne_eq_false_iff_eq.{0}) ∧ (type_of% @Bool.not_eq_true'))) ∧ ((type_of% @Bool.not_eq_false') ∧ ((type_of% @Int.not_lt) ∧ (type_of% @Int.not_le))))) :=
  ⟨⟨⟨@decide_eq_true_eq, ⟨@decide_eq_false_iff_not, @Bool.and_eq_true⟩⟩, ⟨@Bool.or_eq_true, ⟨@Bool.and_eq_false_iff, @Bool.or_eq_false_iff⟩⟩⟩, ⟨⟨@bne_iff_ne.{0}, ⟨@bne_eq_false_iff_eq.{0}, @Bool.not_eq_true'⟩⟩, ⟨@Bool.not_eq_false', ⟨@Int.not_lt, @Int.not_le⟩⟩⟩⟩
/-- and a guard -/
theorem ZF : ((((type_of% @Bool.not_eq_true') ∧ ((type_of% @Bool.not_eq_false') ∧ (type_of% @Bool.not_false))) ∧ ((type_of% @Bool.not_true) ∧ ((type_of% @Bool.true_and) ∧ (type_of% @Bool.and_true)))) ∧ (((type_of% @Bool.false_and) ∧ ((type_of% @Bool.and_false) ∧ (type_of% @true_and))) ∧ (((type_of% @and_true) ∧ (type_of% @imp_self)) ∧ ((type_of% @implies_true.{1}) ∧ (type_of% @and_self))))) :=
  ⟨⟨⟨@Bool.not_eq_true', ⟨@Bool.not_eq_false', @Bool.not_false⟩⟩, ⟨@Bool.not_true, ⟨@Bool.true_and, @Bool.and_true⟩⟩⟩, ⟨⟨@Bool.false_and, ⟨@Bool.and_false, @true_and⟩⟩, ⟨⟨@and_true, @imp_self⟩, ⟨@implies_true.{1}, @and_self⟩⟩⟩⟩
end Go.Proofs.YtjdjpgjjnajjhaaDoor
namespace Go.Proofs.YtjdjpgjjnajjhaaDoor
open Go
set_option linter.unusedSimpArgs false
set_option linter.unusedVariables false
/-- What does not hang on memory. -/
def clA : AV → Bool
  | .lit _ => true
  | .any => true
  | .agg cs => clL cs
  | .tup cs => clL cs
  | .ifc _ x => clA x
  | _ => false
where clL : List AV → Bool
  | [] => true
  | x :: r => clA x && clL r
theorem clL_get : ∀ {cs : List AV} (i : Nat) (hi : i < cs.length), clA.clL cs = true → clA cs[i] = true
  | x :: r, 0, _, h => by simp only [clA.clL, Bool.and_eq_true] at h; exact h.1
  | x :: r, i + 1, hi, h => by
    simp only [clA.clL, Bool.and_eq_true] at h
    exact clL_get (cs := r) i (by simpa using hi) h.2
theorem Rep.closed {w w' : World} {I I' : Nat → Prop} {v : Value} {x : AV} (h : Rep w I v x) : clA x = true → Rep w' I' v x := by
  induction h with
  | any v => exact fun _ => .any v
  | lit v => exact fun _ => .lit v
  | sl a n cap cs g hn hm h _ ih => intro hc; simp [clA] at hc
  | slz a k zs cap hn hm h => intro hc; simp [clA] at hc
  | ip ad cs g h _ ih => intro hc; simp [clA] at hc
  | ipz ad k zs h => intro hc; simp [clA] at hc
  | agg vs cs hs _ ih => exact fun hc => .agg vs cs hs fun i hi => ih i hi (clL_get i hi (by simpa [clA] using hc))
  | tup vs cs hs _ ih => exact fun hc => .tup vs cs hs fun i hi => ih i hi (clL_get i hi (by simpa [clA] using hc))
  | ifc t v x _ ih => exact fun hc => .ifc t v x (ih (by simpa [clA] using hc))
  | gdt v x _ ih => intro hc; simp [clA] at hc
  | gdf x => intro hc; simp [clA] at hc
theorem hget_perm {b : Nat} {m : MB} : ∀ {H : Hp}, hget H b = some m → H.Perm ([(b, m)] ++ hdel H b)
  | [], h => by cases h
  | (b0, m0) :: r, h => by
    simp only [hget, hdel] at h ⊢
    split at h
    · rename_i he; subst he; cases h; simp
    · rename_i he
      rw [if_neg he]
      have := hget_perm (H := r) h
      exact (List.Perm.cons _ this).trans (List.Perm.swap ..)
/-! ## Views -/
/-- x, looked at through blocks of H that nobody writes for a while, is y. -/
inductive Vw (H : Hp) : AV → AV → Prop
  | same (x : AV) : Vw H x x
  | row {b off n cap sz ty : Nat} {k : IntKind} {zs : List Int} (hg : hget H b = some (.zs k zs sz ty)) (h1 : off + n ≤ zs.length) (h2 : n ≤ cap) (h3 : cap ≤ maxLen) :
      Vw H (ms b off n cap) (.slz k ((zs.drop off).take n))
  | rowc {b off n cap sz ty : Nat} {cs ds : List AV} (hg : hget H b = some (.cells cs sz ty)) (h1 : off + ds.length ≤ cs.length) (h2 : n ≤ cap) (h3 : cap ≤ maxLen)
      (h : ∀ i (hi : i < ds.length), Vw H (cs.getD (off + i) .any) ds[i]) : Vw H (ms b off n cap) (.sl n ds)
  | ptc {b off sz ty : Nat} {cs ds : List AV} (hg : hget H b = some (.cells cs sz ty)) (h1 : off + ds.length ≤ cs.length)
      (h : ∀ i (hi : i < ds.length), Vw H (cs.getD (off + i) .any) ds[i]) : Vw H (pt b off) (.ip ds)
  | ptz {b off sz ty : Nat} {k : IntKind} {zs : List Int} (hg : hget H b = some (.zs k zs sz ty)) (h1 : off ≤ zs.length) : Vw H (pt b off) (.ipz k (zs.drop off))
  | agg {cs ds : List AV} (hl : ds.length = cs.length) (h : ∀ i (hi : i < ds.length), Vw H (cs.getD i .any) ds[i]) : Vw H (.agg cs) (.agg ds)
  | ifc {t : TypeId} {x y : AV} (h : Vw H x y) : Vw H (.ifc t x) (.ifc t y)
  | nils : Vw H (.lit (.slice none 0 0)) (.sl 0 [])
theorem Vw.rep {cx : Cx} {H : Hp} {w : World} {I' : Nat → Prop} (hw : OkW cx H w) (hlt : ∀ b, imm cx w H b → I' b) (hk : ∀ x ∈ H, I' x.1) {x y : AV} (h : Vw H x y) : ∀ {v : Value}, Rep w (imm cx w H) v x → Rep w I' v y := by
  induction h with
  | same x => exact fun hv => hv.mono fun b hb => ⟨hlt b hb, rfl⟩
  | @row b off n cap sz ty k zs hg h1 h2 h3 =>
    intro v hv
    have := hv.lit_inv; subst this
    obtain ⟨cur, c1, c2, c3, c4⟩ := hw.mem _ (hget_mem hg)
    have e : ((zs.drop off).take n).length = n := by simp; omega
    have : Rep w I' (.slice (some ⟨b, off, none⟩) ((zs.drop off).take n).length cap) (.slz k ((zs.drop off).take n)) := by
      refine .slz _ _ _ _ (by omega) h3 (.inr ⟨b, off, rfl, hk _ (hget_mem hg), fun i hi => ?_⟩)
      rw [e] at hi
      rw [cell_of_block c1, c4 _ (by omega)]
      simp [List.getD, List.getElem?_take, List.getElem?_drop, hi]
    rw [e] at this
    exact this
  | @rowc b off n cap sz ty cs ds hg h1 h2 h3 h ih =>
    intro v hv
    have := hv.lit_inv; subst this
    obtain ⟨cur, c1, c2, c3, c4⟩ := hw.mem _ (hget_mem hg)
    refine .sl _ _ _ _ (fun i => cur.getD (off + i) undef) h2 h3 (.inr ⟨b, off, rfl, hk _ (hget_mem hg), fun i hi => ?_⟩) fun i hi => ih i hi ?_
    · rw [cell_of_block c1]
      have : off + i < cur.size := by omega
      simp [this]
    · have h4 := c4 (off + i) (by omega)
      have : cs.getD (off + i) .any = cs[off + i]'(by omega) := by simp [List.getD, show off + i < cs.length by omega]
      rw [this]
      exact h4
  | @ptc b off sz ty cs ds hg h1 h ih =>
    intro v hv
    have := hv.lit_inv; subst this
    obtain ⟨cur, c1, c2, c3, c4⟩ := hw.mem _ (hget_mem hg)
    refine .ip _ _ (fun i => cur.getD (off + i) undef) (.inr ⟨b, off, rfl, hk _ (hget_mem hg), fun i hi => ?_⟩) fun i hi => ih i hi ?_
    · rw [cell_of_block c1]
      have : off + i < cur.size := by omega
      simp [this]
    · have h4 := c4 (off + i) (by omega)
      have : cs.getD (off + i) .any = cs[off + i]'(by omega) := by simp [List.getD, show off + i < cs.length by omega]
      rw [this]
      exact h4
  | @ptz b off sz ty k zs hg h1 =>
    intro v hv
    have := hv.lit_inv; subst this
    obtain ⟨cur, c1, c2, c3, c4⟩ := hw.mem _ (hget_mem hg)
    refine .ipz _ _ _ (.inr ⟨b, off, rfl, hk _ (hget_mem hg), fun i hi => ?_⟩)
    simp only [List.length_drop] at hi
    rw [cell_of_block c1, c4 _ (by omega)]
    simp [List.getD, List.getElem?_drop]
  | @agg cs ds hl h ih =>
    intro v hv
    cases hv with
    | agg vs cs hs r =>
      refine .agg vs ds (by omega) fun i hi => ih i hi ?_
      have hic : i < cs.length := by omega
      have : cs.getD i .any = cs[i] := by simp [List.getD, hic]
      rw [this]
      exact r i hic
  | ifc h ih =>
    intro v hv
    cases hv with
    | ifc t v x r => exact .ifc _ _ _ (ih r)
  | nils =>
    intro v hv
    have := hv.lit_inv; subst this
    exact .sl none 0 0 [] (fun _ => undef) (Nat.le_refl _) (Nat.zero_le _) (.inl rfl) (fun i hi => by simp at hi)
def VwL (H : Hp) : List AV → List AV → Prop
  | [], [] => True
  | x :: r, y :: s => Vw H x y ∧ VwL H r s
  | _, _ => False
theorem VwL.length {H : Hp} : ∀ {l m : List AV}, VwL H l m → m.length = l.length
  | [], [], _ => rfl
  | x :: r, y :: s, h => by simp [VwL.length h.2]
  | [], y :: s, h => h.elim
  | x :: r, [], h => h.elim
theorem VwL.get {H : Hp} : ∀ {l m : List AV}, VwL H l m → ∀ i, i < l.length → Vw H (l.getD i .any) (m.getD i .any)
  | x :: r, y :: s, h, 0, _ => by simpa using h.1
  | x :: r, y :: s, h, i + 1, hi => by simpa using VwL.get h.2 i (by simpa using hi)
  | [], [], _, i, hi => by simp at hi
  | [], y :: s, h, _, _ => h.elim
  | x :: r, [], h, _, _ => h.elim
/-- A callee that only reads a block of ours, which we give up for good: what comes back may look into it. -/
theorem ACt.frz {P : Program} {f : FuncId} {args args' : List AV} {b : Nat} {m : MB} {p : AV → Prop} (h : ACt P f args' [] (fun r F' => p r ∧ F' = [])) (hv : VwL [(b, m)] args args') :
    ACt P f args [(b, m)] (fun r F' => p r ∧ F' = []) := by
  intro cx vs hK hw hs hr
  have hlen := hv.length
  have hbl := keys_lt hw (b, m) (List.mem_cons_self ..)
  have hKb : cx.K = [b] := by rw [hK]; rfl
  have himm : ∀ c, imm cx cx.w0 [(b, m)] c → cx.I c := by
    rintro c (hc | ⟨h1, h2, h3⟩)
    · exact hc
    · have := h3 (b, m) (List.mem_cons_self ..)
      rcases h1 with h1 | h1
      · rw [hKb] at h1; simp at h1; exact absurd h1.symm this
      · omega
  have := h ⟨cx.w0, fun c => cx.I c ∨ c = b, [], fun c hc => ⟨by rcases hc with hc | rfl; exact (cx.hI c hc).1; exact hbl, by simp⟩⟩ vs rfl ⟨by simp, fun x hx => by simp at hx, fun x hx => by simp at hx, ⟨rfl, rfl, rfl, Nat.le_refl _, fun _ _ _ => rfl⟩⟩
    (by omega) (fun i hi => by
      have hi' : i < args.length := by omega
      exact (hv.get i hi').rep hw (fun c hc => .inl (himm c hc)) (fun x hx => by simp at hx; subst hx; exact .inr rfl) ((hr i hi').mono fun c hc => ⟨.inl hc, rfl⟩))
  refine this.mono ?_
  rintro e w' ⟨v, r, F', rfl, ⟨hp, rfl⟩, hw', hrep⟩
  have e1 := hw.ext
  have e2 := hw'.ext
  refine ⟨v, r, [], rfl, ⟨hp, rfl⟩, ⟨by simp, fun x hx => by simp at hx, fun x hx => by simp at hx, ?_⟩, hrep.mono fun c hc => ⟨?_, rfl⟩⟩
  · exact ⟨e2.os.trans e1.os, e2.tape.trans e1.tape, e2.output.trans e1.output, Nat.le_trans e1.size e2.size, fun c hc hk => (e2.blk c hc (by simp)).trans (e1.blk c hc hk)⟩
  · have hsz : cx.w0.heap.size ≤ w'.heap.size := e2.size
    rcases hc with (hc | rfl) | ⟨h1, h2, h3⟩
    · exact .inl hc
    · exact .inr ⟨.inl (by rw [hKb]; simp), by omega, fun x hx => by simp at hx⟩
    · rcases h1 with h1 | h1
      · simp at h1
      · exact .inr ⟨.inr h1, h2, fun x hx => by simp at hx⟩
theorem CallV.frz {P : Program} {f : FuncId} {args args' : List AV} {H : Hp} {x : AV} {post : AV → Hp → Prop} {m : MB} (b : Nat) (hg : hget H b = some m) (h : ACt P f args' [] (Fn x)) (hv : VwL [(b, m)] args args')
    (hp : post x (hdel H b)) : CallV P f args H post := by
  refine ⟨[(b, m)], hdel H b, _, hget_perm hg, h.frz (p := fun r => r = x) hv, ?_⟩
  rintro r F' ⟨rfl, rfl⟩ hn
  exact hp
/-! ## Rows of integers that a callee hands back, ours -/
/-- What comes back is a row of these integers, the caller's own. -/
def Row (k : IntKind) (ty : TypeId) (zs : List Int) (r : AV) (F' : Hp) : Prop :=
  ∃ b' cap', zs.length ≤ cap' ∧ cap' ≤ maxLen ∧ r = ms b' 0 zs.length cap' ∧ F' = [(b', .zs k zs cap' ty)]
theorem fresh_of_nodup {b' : Nat} {m' : MB} {R : Hp} (h : (([(b', m')] ++ R).map (·.1)).Nodup) : fresh R b' := by
  rw [List.map_append, List.nodup_append] at h
  intro x hx
  have := h.2.2 b' (by simp) x.1 (List.mem_map_of_mem hx)
  exact ⟨fun he => this he.symm, this⟩
theorem CallV.row {P : Program} {f : FuncId} {args : List AV} {H : Hp} {b : Nat} {m : MB} {k : IntKind} {ty : TypeId} {zs : List Int} {post : AV → Hp → Prop} (hg : hget H b = some m) (h : ACt P f args [(b, m)] (Row k ty zs))
    (hp : Nu fun b' => Nu fun cap' => Fr (zs.length ≤ cap' ∧ cap' ≤ maxLen ∧ fresh (hdel H b) b') (post (ms b' 0 zs.length cap') ((b', .zs k zs cap' ty) :: hdel H b))) : CallV P f args H post := by
  refine ⟨[(b, m)], hdel H b, _, hget_perm hg, h, ?_⟩
  rintro r F' ⟨b', cap', h1, h2, rfl, rfl⟩ hn
  exact ((hp.out b').out cap').out ⟨h1, h2, fresh_of_nodup hn⟩
/-- A callee that changes one of our blocks, and hands back what does not hang on memory. -/
theorem CallV.upd {P : Program} {f : FuncId} {args : List AV} {H : Hp} {b : Nat} {m m' : MB} {x : AV} {post : AV → Hp → Prop} (hg : hget H b = some m) (h : ACt P f args [(b, m)] (fun r F' => r = x ∧ F' = [(b, m')]))
    (hp : post x ((b, m') :: hdel H b)) : CallV P f args H post := by
  refine ⟨[(b, m)], hdel H b, _, hget_perm hg, h, ?_⟩
  rintro r F' ⟨rfl, rfl⟩ hn
  exact hp
/-- What comes back is a new block of cells, and a pointer to it. -/
def NewC (ty : TypeId) (cs : List AV) (r : AV) (F' : Hp) : Prop := ∃ b', r = pt b' 0 ∧ F' = [(b', .cells cs cs.length ty)]
/-! ## Weakenings -/
/-- A slot, known in other words. -/
theorem Wk.slot {env env' : List (Nat × AV)} {H : Hp} (h : ∀ i (w : World) (I : Nat → Prop) v, Rep w I v (look env i) → Rep w I v (look env' i)) : Wk ⟨env, H⟩ ⟨env', H⟩ :=
  fun cx n a w ok => ⟨ok.defers, ok.size, fun i => h i w _ _ (ok.reps i), ok.world⟩
theorem Rep.nils {w : World} {I : Nat → Prop} {v : Value} (h : Rep w I v (.lit (.slice none 0 0))) : Rep w I v (.sl 0 []) := by
  have := h.lit_inv; subst this
  exact .sl none 0 0 [] (fun _ => undef) (by simp) (by simp) (.inl rfl) (fun i hi => by simp at hi)
/-- What is said of the slots' front, over. -/
theorem Wk.cons {env : List (Nat × AV)} {H : Hp} {i : Nat} {x y : AV} (hl : look env i = x) (h : ∀ (w : World) (I : Nat → Prop) v, Rep w I v x → Rep w I v y) : Wk ⟨env, H⟩ ⟨(i, y) :: env, H⟩ :=
  Wk.slot fun j w I v hv => by
    simp only [look]
    split
    · rename_i hj; subst hj; rw [hl] at hv; exact h w I v hv
    · exact hv
theorem Wk.trans {s t u : St} (h1 : Wk s t) (h2 : Wk t u) : Wk s u := fun cx n a w ok => h2 cx n a w (h1 cx n a w ok)
/-- A list of views, cell by cell, from a place on. -/
def VwC (H : Hp) : List AV → List AV → Prop
  | _, [] => True
  | [], _ :: _ => False
  | x :: r, y :: s => Vw H x y ∧ VwC H r s
theorem VwC.get {H : Hp} : ∀ {l m : List AV}, VwC H l m → m.length ≤ l.length ∧ ∀ i (hi : i < m.length), Vw H (l.getD i .any) m[i]
  | _, [], _ => ⟨by simp, fun i hi => by simp at hi⟩
  | [], y :: s, h => h.elim
  | x :: r, y :: s, h => by
    obtain ⟨h1, h2⟩ := VwC.get h.2
    refine ⟨by simp; omega, fun i hi => ?_⟩
    cases i with
    | zero => simpa using h.1
    | succ i => simpa using h2 i (by simpa using hi)
theorem VwC.refl {H : Hp} : ∀ l : List AV, VwC H l l
  | [] => trivial
  | x :: r => ⟨.same x, VwC.refl r⟩
/-! ## Blocks, picked out -/
def pickB : Hp → Hp → Prop
  | _, [] => True
  | H, (b, m) :: r => hget H b = some m ∧ pickB (hdel H b) r
theorem pickB.perm : ∀ {H' H : Hp}, pickB H H' → ∃ R, H.Perm (H' ++ R)
  | [], H, _ => ⟨H, by simp⟩
  | (b, m) :: r, H, h => by
    obtain ⟨R, hR⟩ := pickB.perm h.2
    exact ⟨R, (hget_perm h.1).trans (by simpa using hR)⟩
theorem Sub.pick {env env' : List (Nat × AV)} {H H' : Hp} (hH : pickB H H') (h : ∀ p ∈ env', look env p.1 = p.2) : Sub ⟨env, H⟩ ⟨env', H'⟩ := by
  obtain ⟨R, hR⟩ := hH.perm
  exact Sub.of_env R hR h
/-! ## Ways out -/
theorem OutQ.row {P : Program} {rs : List ResultVar} {s : St} {k : IntKind} {ty : TypeId} {zs zs' : List Int} {b' n cap' : Nat} (h1 : (resv P s.H s.env rs).1) (h2 : resA (resv P s.H s.env rs).2 = ms b' 0 n cap')
    (hg : hget s.H b' = some (.zs k zs' cap' ty)) (hz : zs' = zs) (hn : zs.length = n) (hc1 : n ≤ cap') (hc2 : cap' ≤ maxLen) : OutQ P rs (Row k ty zs) s := by
  subst hz
  refine OutQ.drop [(b', .zs k zs' cap' ty)] (hdel s.H b') (hget_perm hg) h1 ⟨b', cap', by omega, hc2, ?_, rfl⟩
  rw [h2, hn]
/-- A row of ours, handed back as one that nobody writes any more. -/
theorem OutQ.fz {P : Program} {t : Tmp} {s : St} {k : IntKind} {ty s0 : TypeId} {zs zs' : List Int} {b n cap : Nat} (h2 : look s.env t = ms b 0 n cap)
    (hg : hget s.H b = some (.zs k zs' s0 ty)) (hz : zs' = zs) (hn : zs.length = n) (hc1 : n ≤ cap) (hc2 : cap ≤ maxLen) : OutQ P [.tmp t] (Fn (.slz k zs)) s := by
  subst hz
  refine OutQ.wk (Wk.freeze b hg) (OutQ.all trivial ?_)
  simp only [resv, resA, look_frzE, h2, frz, if_true]
  rw [if_pos ⟨by omega, hc1, hc2⟩, ← hn]
  simp [Fn]
theorem OutQ.newC {P : Program} {rs : List ResultVar} {s : St} {ty sz : Nat} {cs cs' : List AV} {b' : Nat} (h1 : (resv P s.H s.env rs).1) (h2 : resA (resv P s.H s.env rs).2 = pt b' 0)
    (hg : hget s.H b' = some (.cells cs' sz ty)) (hz : cs' = cs) (hs : sz = cs.length) : OutQ P rs (NewC ty cs) s := by
  subst hz hs
  exact OutQ.drop [(b', .cells cs' cs'.length ty)] (hdel s.H b') (hget_perm hg) h1 ⟨b', h2, rfl⟩
theorem OutQ.upd {P : Program} {rs : List ResultVar} {s : St} {x : AV} {b : Nat} {m m' : MB} (h1 : (resv P s.H s.env rs).1) (h2 : resA (resv P s.H s.env rs).2 = x)
    (hg : hget s.H b = some m) (hm : m = m') : OutQ P rs (fun r F' => r = x ∧ F' = [(b, m')]) s := by
  subst hm
  exact OutQ.drop [(b, m)] (hdel s.H b) (hget_perm hg) h1 ⟨h2, rfl⟩
end Go.Proofs.YtjdjpgjjnajjhaaDoor
namespace Go.Proofs.YtjdjpgjjnajjhaaDoor
open Go
set_option linter.unusedSimpArgs false
set_option linter.unusedVariables false
section
variable {P : Program} {cx : Cx} {n : Nat} {ops : Array Oper} {H E : Hp}
theorem hget_app {b : Nat} {m : MB} (hf : ∀ p ∈ E, fresh H p.1) (h : hget H b = some m) : hget (E ++ H) b = some m := by
  induction E with
  | nil => exact h
  | cons p r ih =>
    obtain ⟨b0, m0⟩ := p
    simp only [List.cons_append, hget]
    have h1 := hf (b0, m0) (List.mem_cons_self ..) _ (hget_mem h)
    rw [if_neg h1.1]
    exact ih fun q hq => hf q (List.mem_cons_of_mem _ hq)
theorem load1_app {x : AV} (hf : ∀ p ∈ E, fresh H p.1) (h : (load1 H x).1) : load1 (E ++ H) x = load1 H x := by
  by_cases hx : ∃ b off, x = pt b off
  · obtain ⟨b, off, rfl⟩ := hx
    simp only [load1] at h ⊢
    cases hg : hget H b with
    | none => rw [hg] at h; exact h.elim
    | some m => rw [hget_app hf hg]
  · unfold load1
    split <;> first | rfl | exact absurd ⟨_, _, rfl⟩ hx
theorem loadn_app {x : AV} {c : Nat} (hf : ∀ p ∈ E, fresh H p.1) (h : (loadn H c x).1) : loadn (E ++ H) c x = loadn H c x := by
  by_cases hx : ∃ b off, x = pt b off
  · obtain ⟨b, off, rfl⟩ := hx
    simp only [loadn] at h ⊢
    cases hg : hget H b with
    | none => rw [hg] at h; exact h.elim
    | some m => rw [hget_app hf hg]
  · unfold loadn
    split <;> first | rfl | exact absurd ⟨_, _, rfl⟩ hx
theorem loadv_app {T : TypeId} {x : AV} (hf : ∀ p ∈ E, fresh H p.1) (h : (loadv P H T x).1) : loadv P (E ++ H) T x = loadv P H T x := by
  unfold loadv at h ⊢
  split
  · rename_i ht; rw [ht] at h; exact load1_app hf h
  · rename_i c ht; rw [ht] at h; exact loadn_app hf h
  · rfl
theorem convv_app {s d : TypeId} {x : AV} {r : Prop × AV} (hf : ∀ p ∈ E, fresh H p.1) (h : convv P H s d x = some r) (hr : r.1) : convv P (E ++ H) s d x = some r := by
  by_cases hy : ∃ b off, x = pt b off
  · obtain ⟨b, off, rfl⟩ := hy
    cases hd : P.underlying d with
    | none => simp only [convv, hd] at h; cases h
    | some td =>
      cases td <;> simp only [convv, hd] at h ⊢ <;> first | exact h | skip
      all_goals
        cases hg : hget H b with
        | none => rw [hg] at h; cases h; exact hr.elim
        | some mb => rw [hg] at h; rw [hget_app hf hg]; exact h
  by_cases hx : ∃ b off m cap, x = ms b off m cap
  · obtain ⟨b, off, m, cap, rfl⟩ := hx
    cases hd : P.underlying d with
    | none => simp only [convv, hd] at h; cases h
    | some td =>
      cases td <;> simp only [convv, hd] at h ⊢ <;> first | exact h | skip
      cases hg : hget H b with
      | none => rw [hg] at h; cases h; exact hr.elim
      | some mb => rw [hg] at h; rw [hget_app hf hg]; exact h
  · have : convv P (E ++ H) s d x = convv P H s d x := by
      unfold convv
      split
      · rfl
      · split <;> first | rfl | exact absurd ⟨_, _, _, _, rfl⟩ hx
      · split <;> first | rfl | exact absurd ⟨_, _, rfl⟩ hy
      · split <;> first | rfl | exact absurd ⟨_, _, rfl⟩ hy
      · rfl
    rw [this]; exact h
theorem pev_app {env : List (Nat × AV)} {op : Op} {r : Prop × AV} (hf : ∀ p ∈ E, fresh H p.1) (h : pev P H env op = some r) (hr : r.1) : pev P (E ++ H) env op = some r := by
  cases op <;> first | exact h | skip
  case slice T x lo hi mx => cases mx <;> exact h
  case load T a =>
    simp only [pev, Option.some.injEq] at h ⊢
    subst h
    unfold one at hr ⊢
    rw [loadv_app hf hr.2]
  case convert s d x =>
    simp only [pev] at h ⊢
    cases hc : convv P H s d (og env x).2 with
    | none => rw [hc] at h; cases h
    | some q =>
      rw [hc] at h
      simp only [Option.map_some, Option.some.injEq] at h
      subst h
      rw [convv_app hf hc hr.2]
      rfl
/-- Steady, whatever blocks of others' there are besides. -/
def StdyE (P : Program) (cx : Cx) (n : Nat) (ops : Array Oper) (o : Oper) (env : List (Nat × AV)) (H : Hp) (x : AV) : Prop :=
  ∀ E : Hp, (∀ p ∈ E, fresh H p.1) → Stdy P cx n ops o env (E ++ H) x
/-! ### One step, whatever it does to memory -/
theorem dinv_before {lx : List (Oper × AV)} {env : List (Nat × AV)} {listed : Array Bool} {a : Act} {w : World} {i : Nat} {o : Oper} {x : AV} (hD : DrawOk ops lx.length) (hlx : ∀ (j : Nat) o x, lx[j]? = some (o, x) → ops[j]? = some o)
    (inv : DInv cx n ops lx env H listed a w) (hi : i ∈ Region.ready .any ops listed) (hli : lx[i]? = some (o, x)) :
    listed.getD i false = false ∧ i < ops.size ∧ ∀ t, (t ∈ o.looksAt ops ∨ o.dst = some t) → ∀ (j : Nat) oj xj, lx[j]? = some (oj, xj) → oj.dst = some t → j ≠ i → (listed.getD j false = decide (j < i)) := by
  have hoi := hlx i o x hli
  have hun := (mem_ready.1 hi).1
  have hilt : i < ops.size := (Array.getElem?_eq_some_iff.1 hoi).1
  have hun' : listed.getD i false = false := by rw [← getD_bool (by rw [inv.lsize]; exact hilt)]; exact hun
  refine ⟨hun', hilt, ?_⟩
  intro t ht j oj xj hj hd hji
  have hjk : j < lx.length := (List.getElem?_eq_some_iff.1 hj).1
  rcases hD.slot i j o oj t hoi hjk (hlx j oj xj hj) hd ht (Ne.symm hji) with ⟨h1, h2⟩ | ⟨h1, h2⟩
  · rw [ready_waits hi hoi h2]; simp [h1]
  · have : listed.getD j false = false := by
      cases hl : listed.getD j false with
      | false => rfl
      | true => have := inv.closed j oj (hlx j oj xj hj) hl i h2; rw [hun'] at this; cases this
    rw [this]; simp; omega
theorem dinv_look {lx : List (Oper × AV)} {env : List (Nat × AV)} {listed : Array Bool} {a : Act} {w : World} {i : Nat} {o : Oper} {x : AV} (hD : DrawOk ops lx.length) (hlx : ∀ (j : Nat) o x, lx[j]? = some (o, x) → ops[j]? = some o)
    (inv : DInv cx n ops lx env H listed a w) (hi : i ∈ Region.ready .any ops listed) (hli : lx[i]? = some (o, x)) :
    ∀ t ∈ o.looksAt ops, look (envL (fun j => listed.getD j false) lx 0 env) t = look (envL (fun j => decide (j < i)) lx 0 env) t := by
  obtain ⟨hun', hilt, hbefore⟩ := dinv_before hD hlx inv hi hli
  intro t ht
  refine envL_congr lx 0 env env rfl fun j oj xj hj hd => ?_
  rw [Nat.zero_add]
  by_cases hji : j = i
  · subst hji; rw [hun']; simp
  · exact hbefore t (.inl ht) j oj xj hj hd hji
theorem dinv_put {lx : List (Oper × AV)} {env : List (Nat × AV)} {H' : Hp} {listed : Array Bool} {a : Act} {w w' : World} {i : Nat} {o : Oper} {x : AV} {v : Value} (hD : DrawOk ops lx.length) (hlx : ∀ (j : Nat) o x, lx[j]? = some (o, x) → ops[j]? = some o)
    (inv : DInv cx n ops lx env H listed a w) (hi : i ∈ Region.ready .any ops listed) (hli : lx[i]? = some (o, x)) (hdst : okd n o.dst)
    (hv : Rep w' (imm cx w' H') v x) (hw' : OkW cx H' w') (hI : ∀ c, imm cx w H c → imm cx w' H' c ∧ w'.heap[c]? = w.heap[c]?) :
    DInv cx n ops lx env H' (listed.setIfInBounds i true) (a.put o.dst v) w' := by
  obtain ⟨hun', hilt, hbefore⟩ := dinv_before hD hlx inv hi hli
  have hik : i < lx.length := (List.getElem?_eq_some_iff.1 hli).1
  have hset : ∀ j, (listed.setIfInBounds i true).getD j false = if j = i then true else listed.getD j false := by
    intro j
    by_cases hji : j = i
    · subst hji
      have : j < listed.size := by rw [inv.lsize]; exact hilt
      simp [this]
    · rw [if_neg hji, getD_set_ne false (Ne.symm hji)]
  refine ⟨by simp [inv.lsize], closed_set inv.closed hi, fun t ht ht' => by rw [getD_set_ne true (by omega)]; exact inv.tail t ht ht', ?_⟩
  refine ⟨by cases o.dst <;> exact inv.ok.defers, by cases o.dst <;> simp [Act.put, inv.ok.size], fun t => ?_, hw'⟩
  have hold := (inv.ok.reps t).mono hI
  by_cases hd : o.dst = some t
  · have e1 : look (envL (fun j => (listed.setIfInBounds i true).getD j false) lx 0 env) t = x := by
      rw [← envL_at lx 0 i env o x hli hd]
      refine envL_congr lx 0 env env rfl fun j oj xj hj hdj => ?_
      rw [Nat.zero_add, hset]
      by_cases hji : j = i
      · subst hji; simp
      · rw [if_neg hji, hbefore t (.inr hd) j oj xj hj hdj hji]
        rw [Bool.eq_iff_iff]; simp; omega
    show Rep w' (imm cx w' H') _ (look (envL _ lx 0 env) t)
    rw [e1, hd]
    have : t < a.tmps.size := by rw [inv.ok.size]; rw [hd] at hdst; exact hdst
    simpa [Act.put, this] using hv
  · have e1 : look (envL (fun j => (listed.setIfInBounds i true).getD j false) lx 0 env) t = look (envL (fun j => listed.getD j false) lx 0 env) t := by
      refine envL_congr lx 0 env env rfl fun j oj xj hj hdj => ?_
      rw [Nat.zero_add, hset]
      by_cases hji : j = i
      · subst hji
        rw [hli] at hj
        cases hj
        exact absurd hdj hd
      · rw [if_neg hji]
    show Rep w' (imm cx w' H') _ (look (envL _ lx 0 env) t)
    rw [e1]
    have e2 : (a.put o.dst v).tmps.getD t undef = a.tmps.getD t undef := by
      cases hdd : o.dst with
      | none => rfl
      | some d =>
        have : d ≠ t := fun h => hd (by rw [hdd, h])
        simp [Act.put, Array.getElem?_setIfInBounds_ne this]
    rw [e2]
    exact hold
theorem dinv_stepS {lx : List (Oper × AV)} {env : List (Nat × AV)} {listed : Array Bool} {a : Act} {w : World} {i : Nat} {o : Oper} {x : AV} (hD : DrawOk ops lx.length) (hlx : ∀ (j : Nat) o x, lx[j]? = some (o, x) → ops[j]? = some o)
    (hli : lx[i]? = some (o, x)) (hS : Stdy P cx n ops o (envL (fun j => decide (j < i)) lx 0 env) H x) (inv : DInv cx n ops lx env H listed a w) (hi : i ∈ Region.ready .any ops listed) {R : Exit → Act → World → Prop} {X : Act → World → Prop}
    (hX : ∀ v w', DInv cx n ops lx env H (listed.setIfInBounds i true) (a.put o.dst v) w' → X (a.put o.dst v) w') : wpOp P ops R i X a w := by
  obtain ⟨hdst, hst⟩ := hS
  have hlook := dinv_look hD hlx inv hi hli
  unfold wpOp
  rw [hlx i o x hli]
  simp only
  have := hst a w X R inv.ok.defers inv.ok.size inv.ok.world (fun t ht => by rw [← hlook t ht]; exact inv.ok.reps t) (fun v w' hv hw' hI => hX v w' (dinv_put hD hlx inv hi hli hdst hv hw' hI))
  have hput : a.put o.dst undef = a.put o.dst undef := rfl
  split
  · rename_i hw; rw [if_pos hw] at this; exact .inl this
  · rename_i hw; rw [if_neg hw] at this; exact this
/-! ### The private block -/
theorem envL_append {f : Nat → Bool} : ∀ (l1 l2 : List (Oper × AV)) (k : Nat) (env : List (Nat × AV)), envL f (l1 ++ l2) k env = envL f l2 (k + l1.length) (envL f l1 k env)
  | [], l2, k, env => by simp [envL]
  | (o, x) :: r, l2, k, env => by
    simp only [List.cons_append, envL, List.length_cons]
    rw [envL_append r l2 (k + 1)]
    congr 1
    omega
/-- The head of the region, as a formula: first what only computes; the block is made; more that computes; the block is filled; what computes behind; then the tail. -/
def drawF (P : Program) (n : Nat) (l : List Oper) (K : St → Prop) (ia is k : Nat) (s : St) : Prop :=
  dvc P n l.toArray (l.take ia) (fun s1 => match l.drop ia with
    | ⟨some t, .alloc T, _, _, _, none⟩ :: r => match zmb P T with
      | some m0 => t < n ∧ dvc P n l.toArray (r.take (is - ia - 1)) (fun s2 => match r.drop (is - ia - 1) with
        | ⟨none, .store T' (.tmp t') y, _, _, _, none⟩ :: q => t' = t ∧ (og s2.env y).1 ∧ (stC P T' m0 0 (og s2.env y).2).1 ∧ dvc P n l.toArray (q.take (k - is - 1)) (fun s3 =>
            newB s3.H (stC P T' m0 0 (og s2.env y).2).2 fun b H => rvc P n l.toArray (q.drop (k - is - 1)) K ⟨(t, pt b 0) :: s3.env, H⟩) s2
        | _ => False) ⟨(t, .any) :: s1.env, s1.H⟩
      | none => False
    | _ => False) s
theorem envL_ext {f g : Nat → Bool} : ∀ (l : List (Oper × AV)) (k : Nat) (env : List (Nat × AV)), (∀ j, k ≤ j → j < k + l.length → f j = g j) → envL f l k env = envL g l k env
  | [], _, _, _ => rfl
  | (o, x) :: r, k, env, h => by
    simp only [envL]
    rw [h k (Nat.le_refl _) (by simp)]
    exact envL_ext r (k + 1) _ fun j h1 h2 => h j (by omega) (by simp; omega)
theorem envL_none {f : Nat → Bool} : ∀ (l : List (Oper × AV)) (k : Nat) (env : List (Nat × AV)), (∀ j, k ≤ j → f j = false) → envL f l k env = env
  | [], _, _, _ => rfl
  | (o, x) :: r, k, env, h => by
    simp only [envL]
    rw [h k (Nat.le_refl _)]
    simp only [Bool.false_eq_true, if_false]
    exact envL_none r (k + 1) env fun j hj => h j (by omega)
theorem envL_shiftk {f : Nat → Bool} (c : Nat) : ∀ (l : List (Oper × AV)) (k : Nat) (env : List (Nat × AV)), envL f l (c + k) env = envL (fun j => f (c + j)) l k env
  | [], _, _ => rfl
  | (o, x) :: r, k, env => by simp only [envL]; exact envL_shiftk c r (k + 1) _
def SeqG (C : Nat → Oper → AV → List (Nat × AV) → Prop) (lx : List (Oper × AV)) (env : List (Nat × AV)) : Prop :=
  ∀ i o x, lx[i]? = some (o, x) → C i o x (envL (fun j => decide (j < i)) lx 0 env)
theorem SeqG.app {C : Nat → Oper → AV → List (Nat × AV) → Prop} {A B : List (Oper × AV)} {env : List (Nat × AV)} (hA : SeqG C A env) (hB : SeqG (fun i => C (A.length + i)) B (envL (fun _ => true) A 0 env)) : SeqG C (A ++ B) env := by
  intro i o x hi
  rw [envL_append]
  by_cases hlt : i < A.length
  · rw [List.getElem?_append_left hlt] at hi
    rw [envL_none B _ _ (fun j hj => by simp; omega)]
    exact hA i o x hi
  · rw [List.getElem?_append_right (by omega)] at hi
    have := hB (i - A.length) o x hi
    dsimp only at this
    rw [show A.length + (i - A.length) = i by omega] at this
    have e1 : envL (fun j => decide (j < i)) A 0 env = envL (fun _ => true) A 0 env := envL_ext A 0 env fun j _ hj => by simp; omega
    rw [e1, Nat.zero_add, show A.length = A.length + 0 from rfl, envL_shiftk A.length B 0]
    have e2 : envL (fun j => decide (A.length + j < i)) B 0 (envL (fun _ => true) A 0 env) = envL (fun j => decide (j < i - A.length)) B 0 (envL (fun _ => true) A 0 env) :=
      envL_ext B 0 _ fun j _ _ => by rw [Bool.eq_iff_iff]; simp; omega
    rw [e2]
    exact this
theorem SeqG.one {C : Nat → Oper → AV → List (Nat × AV) → Prop} {o : Oper} {x : AV} {env : List (Nat × AV)} (h : C 0 o x env) : SeqG C [(o, x)] env := by
  intro i o' x' hi
  cases i with
  | zero => simp at hi; obtain ⟨rfl, rfl⟩ := hi; simpa [envL] using h
  | succ i => simp at hi
end
end Go.Proofs.YtjdjpgjjnajjhaaDoor
namespace Go.Proofs.YtjdjpgjjnajjhaaDoor
open Go
set_option linter.unusedVariables false
/-- A function without a body, of plain values. -/
theorem ACt.outer {P : Program} {f : FuncId} {fn : Func} {e : Array Value → Sem Value} {ls : List Value} {x : AV} (hf : P.funcs[f]? = some fn) (hname : (fn.name == "runtime.NumGoroutine") = false)
    (hb : fn.body.isNone = true) (hn : Extern.findNext fn = none) (he : Extern.find fn = some e)
    (hr : ∀ w : World, ∃ v, (e ls.toArray).run P w = .ok v w ∧ ∀ I, Rep w I v x) : ACt P f (ls.map .lit) [] (Fn x) := by
  intro cx vs hK hw hs hv
  have hvs : vs = ls.toArray := by
    apply Array.ext
    · simpa using hs
    · intro i h1 h2
      have h3 : i < ls.length := by simpa using h2
      have := hv i (by simpa using h3)
      have e1 : (ls.map AV.lit).getD i .any = .lit ls[i] := by simp [List.getD, h3]
      have e2 : vs.getD i undef = vs[i] := by simp [h1]
      rw [e1, e2] at this
      simpa using this.lit_inv
  obtain ⟨v, h1, h2⟩ := hr cx.w0
  refine .inr ⟨v, cx.w0, ?_, v, x, [], rfl, ⟨rfl, rfl⟩, hw, h2 _⟩
  rw [run_callFunc_extern hf hname hb hn he, hvs, h1, Result.andThen_ok]
end Go.Proofs.YtjdjpgjjnajjhaaDoor
namespace Go.Proofs.YtjdjpgjjnajjhaaDoor
open Go
theorem tyc0 : tyc Tryd.prog 0 = some none := by kernel_rfl
theorem tyc2 : tyc Tryd.prog 2 = some none := by kernel_rfl
theorem zmb2 : zmb Tryd.prog 2 = some (.cells [(.lit (.int .i64 0))] 1 2) := by kernel_rfl
theorem tyc3 : tyc Tryd.prog 3 = some none := by kernel_rfl
theorem zmb3 : zmb Tryd.prog 3 = some (.cells [(.lit (.int .i64 0))] 1 3) := by kernel_rfl
theorem tyc4 : tyc Tryd.prog 4 = some none := by kernel_rfl
theorem zmb4 : zmb Tryd.prog 4 = some (.cells [(.lit (.bool false))] 1 4) := by kernel_rfl
theorem tyc5 : tyc Tryd.prog 5 = some none := by kernel_rfl
theorem zmb5 : zmb Tryd.prog 5 = some (.cells [(.lit (.int .u8 0))] 1 5) := by kernel_rfl
theorem tyc9 : tyc Tryd.prog 9 = some none := by kernel_rfl
theorem zmb9 : zmb Tryd.prog 9 = some (.cells [(.lit (.string ⟨#[]⟩))] 1 9) := by kernel_rfl
theorem tyc12 : tyc Tryd.prog 12 = some none := by kernel_rfl
theorem zmb12 : zmb Tryd.prog 12 = some (.cells [(.lit (.int .u64 0))] 1 12) := by kernel_rfl
theorem tyc21 : tyc Tryd.prog 21 = some none := by kernel_rfl
theorem zmb21 : zmb Tryd.prog 21 = some (.cells [(.lit (.int .i32 0))] 1 21) := by kernel_rfl
theorem tyc26 : tyc Tryd.prog 26 = some none := by kernel_rfl
theorem elt26 : elt Tryd.prog 26 = some (none, 1) := by kernel_rfl
theorem mkz26 : mkz Tryd.prog 26 = some (21, 4, .i32) := by kernel_rfl
theorem apT26 : apT Tryd.prog 26 = some (21, 1, 4) := by kernel_rfl
theorem elk26 : elk Tryd.prog 26 = (some .i32) := by kernel_rfl
theorem zmb26 : zmb Tryd.prog 26 = some (.cells [(.lit (.slice none 0 0))] 1 26) := by kernel_rfl
theorem tyc32 : tyc Tryd.prog 32 = some none := by kernel_rfl
theorem zmb32 : zmb Tryd.prog 32 = some (.cells [(.lit (.int .i64 0))] 1 32) := by kernel_rfl
theorem tyc33 : tyc Tryd.prog 33 = some none := by kernel_rfl
theorem tyc35 : tyc Tryd.prog 35 = some none := by kernel_rfl
theorem elt35 : elt Tryd.prog 35 = some (none, 1) := by kernel_rfl
theorem mkz35 : mkz Tryd.prog 35 = some (5, 1, .u8) := by kernel_rfl
theorem apT35 : apT Tryd.prog 35 = some (5, 1, 1) := by kernel_rfl
theorem elk35 : elk Tryd.prog 35 = (some .u8) := by kernel_rfl
theorem zmb35 : zmb Tryd.prog 35 = some (.cells [(.lit (.slice none 0 0))] 1 35) := by kernel_rfl
theorem tyc36 : tyc Tryd.prog 36 = some none := by kernel_rfl
theorem zmb36 : zmb Tryd.prog 36 = some (.cells [(.lit (.pointer none))] 1 36) := by kernel_rfl
theorem tyc38 : tyc Tryd.prog 38 = some (some 2) := by kernel_rfl
theorem foff38_0 : foff Tryd.prog 38 0 = some 0 := by kernel_rfl
theorem fpart38_0 : fpart Tryd.prog 38 0 = some (0, none) := by kernel_rfl
theorem foff38_1 : foff Tryd.prog 38 1 = some 1 := by kernel_rfl
theorem fpart38_1 : fpart Tryd.prog 38 1 = some (1, none) := by kernel_rfl
theorem zmb38 : zmb Tryd.prog 38 = some (.cells [(.lit (.pointer none)), (.lit (.slice none 0 0))] 2 38) := by kernel_rfl
theorem bldT38 : bldT Tryd.prog 38 = some ([(.pointer none), (.slice none 0 0)], [(0, 1), (1, 1)]) := by kernel_rfl
theorem tyc40 : tyc Tryd.prog 40 = some none := by kernel_rfl
theorem zmb40 : zmb Tryd.prog 40 = some (.cells [(.lit .nilIface)] 1 40) := by kernel_rfl
theorem tyc41 : tyc Tryd.prog 41 = some none := by kernel_rfl
theorem tyc46 : tyc Tryd.prog 46 = some none := by kernel_rfl
theorem tyc48 : tyc Tryd.prog 48 = some none := by kernel_rfl
theorem mth48_38 : mthOf Tryd.prog 48 "firebell/text.after" = some 38 := by kernel_rfl
theorem mth48_29 : mthOf Tryd.prog 48 "firebell/text.take" = some 29 := by kernel_rfl
theorem mth48_39 : mthOf Tryd.prog 48 "firebell/text.within" = some 39 := by kernel_rfl
theorem con48 : Tryd.prog.concrete 48 = true := by kernel_rfl
theorem zmb48 : zmb Tryd.prog 48 = some (.cells [(.lit (.pointer none))] 1 48) := by kernel_rfl
theorem tyc50 : tyc Tryd.prog 50 = some (some 5) := by kernel_rfl
theorem foff50_0 : foff Tryd.prog 50 0 = some 0 := by kernel_rfl
theorem fpart50_0 : fpart Tryd.prog 50 0 = some (0, (some 2)) := by kernel_rfl
theorem foff50_1 : foff Tryd.prog 50 1 = some 2 := by kernel_rfl
theorem fpart50_1 : fpart Tryd.prog 50 1 = some (2, none) := by kernel_rfl
theorem foff50_2 : foff Tryd.prog 50 2 = some 3 := by kernel_rfl
theorem fpart50_2 : fpart Tryd.prog 50 2 = some (3, none) := by kernel_rfl
theorem foff50_3 : foff Tryd.prog 50 3 = some 4 := by kernel_rfl
theorem fpart50_3 : fpart Tryd.prog 50 3 = some (4, none) := by kernel_rfl
theorem zmb50 : zmb Tryd.prog 50 = some (.cells [(.lit (.pointer none)), (.lit (.slice none 0 0)), (.lit (.int .i64 0)), (.lit (.int .i32 0)), (.lit (.int .i64 0))] 5 50) := by kernel_rfl
theorem bldT50 : bldT Tryd.prog 50 = some ([(.pointer none), (.slice none 0 0), (.int .i64 0), (.int .i32 0), (.int .i64 0)], [(0, 2), (2, 1), (3, 1), (4, 1)]) := by kernel_rfl
theorem elt53 : elt Tryd.prog 53 = some ((some 256), 1) := by kernel_rfl
theorem arr153 : arr1 Tryd.prog 53 = some 256 := by kernel_rfl
theorem tyc55 : tyc Tryd.prog 55 = some (some 2) := by kernel_rfl
theorem foff55_0 : foff Tryd.prog 55 0 = some 0 := by kernel_rfl
theorem fpart55_0 : fpart Tryd.prog 55 0 = some (0, none) := by kernel_rfl
theorem foff55_1 : foff Tryd.prog 55 1 = some 1 := by kernel_rfl
theorem fpart55_1 : fpart Tryd.prog 55 1 = some (1, none) := by kernel_rfl
theorem fe55 : flatEq Tryd.prog 55 [1, 1] := flatEq_of (by kernel_rfl)
theorem zmb55 : zmb Tryd.prog 55 = some (.cells [(.lit (.int .u8 0)), (.lit (.int .u8 0))] 2 55) := by kernel_rfl
theorem bldT55 : bldT Tryd.prog 55 = some ([(.int .u8 0), (.int .u8 0)], [(0, 1), (1, 1)]) := by kernel_rfl
theorem tyc56 : tyc Tryd.prog 56 = some (some 32) := by kernel_rfl
theorem elt56 : elt Tryd.prog 56 = some ((some 16), 2) := by kernel_rfl
theorem zmb56 : zmb Tryd.prog 56 = some (.cells [(.lit (.int .u8 0)), (.lit (.int .u8 0)), (.lit (.int .u8 0)), (.lit (.int .u8 0)), (.lit (.int .u8 0)), (.lit (.int .u8 0)), (.lit (.int .u8 0)), (.lit (.int .u8 0)), (.lit (.int .u8 0)), (.lit (.int .u8 0)), (.lit (.int .u8 0)), (.lit (.int .u8 0)), (.lit (.int .u8 0)), (.lit (.int .u8 0)), (.lit (.int .u8 0)), (.lit (.int .u8 0)), (.lit (.int .u8 0)), (.lit (.int .u8 0)), (.lit (.int .u8 0)), (.lit (.int .u8 0)), (.lit (.int .u8 0)), (.lit (.int .u8 0)), (.lit (.int .u8 0)), (.lit (.int .u8 0)), (.lit (.int .u8 0)), (.lit (.int .u8 0)), (.lit (.int .u8 0)), (.lit (.int .u8 0)), (.lit (.int .u8 0)), (.lit (.int .u8 0)), (.lit (.int .u8 0)), (.lit (.int .u8 0))] 32 56) := by kernel_rfl
theorem bldT56 : bldT Tryd.prog 56 = some ([(.int .u8 0), (.int .u8 0), (.int .u8 0), (.int .u8 0), (.int .u8 0), (.int .u8 0), (.int .u8 0), (.int .u8 0), (.int .u8 0), (.int .u8 0), (.int .u8 0), (.int .u8 0), (.int .u8 0), (.int .u8 0), (.int .u8 0), (.int .u8 0), (.int .u8 0), (.int .u8 0), (.int .u8 0), (.int .u8 0), (.int .u8 0), (.int .u8 0), (.int .u8 0), (.int .u8 0), (.int .u8 0), (.int .u8 0), (.int .u8 0), (.int .u8 0), (.int .u8 0), (.int .u8 0), (.int .u8 0), (.int .u8 0)], [(0, 2), (2, 2), (4, 2), (6, 2), (8, 2), (10, 2), (12, 2), (14, 2), (16, 2), (18, 2), (20, 2), (22, 2), (24, 2), (26, 2), (28, 2), (30, 2)]) := by kernel_rfl
theorem tyc57 : tyc Tryd.prog 57 = some none := by kernel_rfl
theorem zmb57 : zmb Tryd.prog 57 = some (.cells [(.lit (.int .u64 0))] 1 57) := by kernel_rfl
theorem tyc60 : tyc Tryd.prog 60 = some none := by kernel_rfl
theorem zmb60 : zmb Tryd.prog 60 = some (.cells [(.lit (.pointer none))] 1 60) := by kernel_rfl
theorem tyc61 : tyc Tryd.prog 61 = some none := by kernel_rfl
theorem zmb61 : zmb Tryd.prog 61 = some (.cells [(.lit (.int .u64 0))] 1 61) := by kernel_rfl
theorem tyc62 : tyc Tryd.prog 62 = some none := by kernel_rfl
theorem zmb62 : zmb Tryd.prog 62 = some (.cells [(.lit (.pointer none))] 1 62) := by kernel_rfl
theorem tyc64 : tyc Tryd.prog 64 = some none := by kernel_rfl
theorem zmb64 : zmb Tryd.prog 64 = some (.cells [(.lit (.int .u32 0))] 1 64) := by kernel_rfl
theorem mixed : Tryd.prog.follows .mixedOrders = true := by kernel_rfl
end Go.Proofs.YtjdjpgjjnajjhaaDoor
namespace Go.Proofs.YtjdjpgjjnajjhaaDoor
open Go
set_option linter.unusedVariables false
set_option linter.unusedSimpArgs false
section
variable {P : Program} {cx : Cx} {n : Nat} {ops : Array Oper} {H : Hp}
theorem Ok.permH {env : List (Nat × AV)} {H H' : Hp} {a : Act} {w : World} (hp : H.Perm H') (ok : Ok cx n ⟨env, H⟩ a w) : Ok cx n ⟨env, H'⟩ a w :=
  ⟨ok.defers, ok.size, fun t => (ok.reps t).mono fun b hb => ⟨(imm_perm hp).1 hb, rfl⟩, ok.world.perm hp⟩
end
end Go.Proofs.YtjdjpgjjnajjhaaDoor
namespace Go.Proofs.YtjdjpgjjnajjhaaDoor
open Go
set_option linter.unusedSimpArgs false
set_option linter.unusedVariables false
section
variable {P : Program} {f : FuncId} {args : List AV} {H F F0 R : Hp} {post : AV → Hp → Prop}
theorem DCt.upd {b : Nat} {m : MB} {x : AV} (hg : hget H b = some m) (h : ACt P f args [(b, m)] (fun r F' => r = x ∧ F' = [(b, m)])) : DCt P f args H x :=
  ⟨[(b, m)], hdel H b, _, hget_perm hg, h, fun r F' hr _ => by obtain ⟨e1, e2⟩ := hr; subst e1 e2; exact ⟨rfl, (hget_perm hg).symm⟩⟩
theorem perm1 {b : Nat} {m : MB} (h : hget H b = some m) : H.Perm ([(b, m)] ++ hdel H b) := hget_perm h
theorem perm2 {b1 b2 : Nat} {m1 m2 : MB} (h1 : hget H b1 = some m1) (h2 : hget (hdel H b1) b2 = some m2) : H.Perm ([(b1, m1), (b2, m2)] ++ hdel (hdel H b1) b2) :=
  (hget_perm h1).trans (List.Perm.append_left [(b1, m1)] (hget_perm h2))
theorem DCt.updN {x : AV} (hP : H.Perm (F ++ R)) (h : ACt P f args F (fun r F' => r = x ∧ F' = F)) : DCt P f args H x :=
  ⟨F, R, _, hP, h, fun r F' hr _ => by obtain ⟨e1, e2⟩ := hr; subst e1 e2; exact ⟨rfl, hP.symm⟩⟩
theorem CallV.updN {x : AV} (hP : H.Perm (F ++ R)) (h : ACt P f args F (fun r F' => r = x ∧ F' = F0)) (hp : post x (F0 ++ R)) : CallV P f args H post :=
  ⟨F, R, _, hP, h, fun r F' hr _ => by obtain ⟨e1, e2⟩ := hr; subst e1 e2; exact hp⟩
theorem fresh_perm {b : Nat} {m : MB} (hP : H.Perm (F ++ R)) (hk : F0.map (·.1) = F.map (·.1)) (hn : ((((b, m) :: F0) ++ R).map (·.1)).Nodup) : fresh H b := by
  intro p hp
  have hp' := hP.mem_iff.1 hp
  simp only [List.cons_append, List.map_cons, List.nodup_cons, List.map_append, List.mem_append] at hn
  have hne : p.1 ≠ b := by
    rintro rfl
    rcases List.mem_append.1 hp' with h | h
    · exact hn.1 (.inl (by rw [hk]; exact List.mem_map_of_mem h))
    · exact hn.1 (.inr (List.mem_map_of_mem h))
  exact ⟨hne, Ne.symm hne⟩
/-- A call that may leave things in one of many ways. -/
theorem CallV.ex {Γ : Type} {x : Γ → AV} {m : Γ → Hp} (hP : H.Perm (F ++ R)) (h : ACt P f args F (fun r F' => ∃ g, r = x g ∧ F' = m g)) (hp : ∀ g, post (x g) (m g ++ R)) : CallV P f args H post :=
  ⟨F, R, _, hP, h, fun r F' hr _ => by obtain ⟨g, e1, e2⟩ := hr; subst e1 e2; exact hp g⟩
theorem ExF.up {K : AV → Prop} {x : AV} (hP : ∃ R, H.Perm (F ++ R)) (h : ACt P f args F (fun r F' => r = x ∧ F' = F)) (hk : K x) : ExF P f args H K := let ⟨_, hP⟩ := hP; ExF.on (DCt.updN hP h) hk
theorem ExG.up {c : Bool} {K : AV → Prop} {x : AV} (hP : ∃ R, H.Perm (F ++ R)) (h : c = true → ACt P f args F (fun r F' => r = x ∧ F' = F)) (hk : K x) : ExG c P f args H K := let ⟨_, hP⟩ := hP; ExG.on (fun hc => DCt.updN hP (h hc)) hk
theorem ExG.upJ {c : Bool} {K : AV → Prop} {x : AV} {q : Prop} (hP : ∃ R, H.Perm (F ++ R)) (h : c = true → ACt P f args F (fun r F' => r = x ∧ F' = F)) (hk : K x) : ExG c P f args H K ∨ q := .inl (ExG.up hP h hk)
theorem ExG.upI {c : Bool} {K : AV → Prop} {x : AV} {q ob : Prop} (hP : ∃ R, H.Perm (F ++ R)) (h : c = true → ACt P f args F (fun r F' => r = x ∧ F' = F)) (ho : ob) (hk : K x) : (ob ∧ ExG c P f args H K) ∨ q := .inl ⟨ho, ExG.up hP h hk⟩
/-- The same with the contract ahead: another function's contract is told apart at once. -/
theorem CallV.updM {f : FuncId} {args : List AV} {H F F0 R : Hp} {post : AV → Hp → Prop} {x : AV} (h : ACt P f args F (fun r F' => r = x ∧ F' = F0)) (hP : H.Perm (F ++ R)) (hp : post x (F0 ++ R)) : CallV P f args H post := CallV.updN hP h hp
theorem CallV.exM {f : FuncId} {args : List AV} {H F R : Hp} {post : AV → Hp → Prop} {Γ : Type} {x : Γ → AV} {m : Γ → Hp} (h : ACt P f args F (fun r F' => ∃ g, r = x g ∧ F' = m g)) (hP : H.Perm (F ++ R)) (hp : ∀ g, post (x g) (m g ++ R)) : CallV P f args H post := CallV.ex hP h hp
end
end Go.Proofs.YtjdjpgjjnajjhaaDoor
namespace Go.Proofs.YtjdjpgjjnajjhaaDoor
open Go
set_option linter.unusedSimpArgs false
set_option linter.unusedVariables false
section
variable {P : Program} {cx : Cx} {n : Nat} {ops : Array Oper}
/-- A call that changes blocks of ours in one way. -/
def ECt (P : Program) (f : FuncId) (args : List AV) (E : Hp) (x : AV) (E' : Hp) : Prop :=
  ∃ F R F0, E.Perm (F ++ R) ∧ E' = F0 ++ R ∧ F0.map (·.1) = F.map (·.1) ∧ ACt P f args F (fun r F' => r = x ∧ F' = F0)
theorem run_ect {f : FuncId} {args : List AV} {x : AV} {env : List (Nat × AV)} {E H0 E' : Hp} {a : Act} {w : World} {vs : Array Value} (ok : Ok cx n ⟨env, E ++ H0⟩ a w) (h : ECt P f args E x E') (hs : vs.size = args.length)
    (hv : ∀ i, i < args.length → Rep w (imm cx w (E ++ H0)) (vs.getD i undef) (args.getD i .any)) :
    CallX P f vs w fun e w' => ∃ v, e = .returned v ∧ Rep w' (imm cx w' (E' ++ H0)) v x ∧ OkW cx (E' ++ H0) w' ∧ ∀ c, imm cx w (E ++ H0) c → imm cx w' (E' ++ H0) c ∧ w'.heap[c]? = w.heap[c]? := by
  obtain ⟨F, R, F0, hP0, rfl, hk, hct⟩ := h
  have hP : (E ++ H0).Perm (F ++ (R ++ H0)) := by rw [← List.append_assoc]; exact hP0.append_right H0
  have hw := ok.world.perm hP
  have hIp : ∀ b, imm cx w (E ++ H0) b → imm cx w (F ++ (R ++ H0)) b := fun b hb => (imm_perm hP).1 hb
  have hI : ∀ b, imm cx w (E ++ H0) b → b < w.heap.size ∧ b ∉ F.map (·.1) := fun b hb => ⟨imm_lt hw.ext.size hb, fun hm => by
    obtain ⟨x, hx, he⟩ := List.mem_map.1 hm
    exact imm_key hw.keys (hIp b hb) x (List.mem_append_left _ hx) he⟩
  have hnd := hw.nodup
  rw [List.map_append, List.nodup_append] at hnd
  have := hct ⟨w, imm cx w (E ++ H0), F.map (·.1), hI⟩ vs rfl ⟨hnd.1, fun x hx => .inl (List.mem_map_of_mem hx), fun x hx => (hw.mem x (List.mem_append_left _ hx)).mono (fun b hb => ⟨.inl ((imm_perm hP).2 hb), rfl⟩) rfl,
    ⟨rfl, rfl, rfl, Nat.le_refl _, fun _ _ _ => rfl⟩⟩ hs hv
  refine this.mono ?_
  rintro e w' ⟨v, r, F', he, ⟨rfl, rfl⟩, hw', hr⟩
  obtain ⟨c1, c2, c3⟩ := call_frame hIp hI hw hw'
  rw [List.append_assoc]
  exact ⟨v, he, hr.mono fun b hb => ⟨c3 b hb, rfl⟩, c1, fun c hc => c2 c (hIp c hc)⟩
def calleeV (env : List (Nat × AV)) : Op → Option (Prop × FuncId × List AV)
  | .call c => match c.callee with
    | .value (.func f) => some ((ogs env c.args.toList).1, f, (ogs env c.args.toList).2)
    | _ => none
  | _ => none
/-- An operation that changes what is ours in one way. -/
def EffE (P : Program) (cx : Cx) (n : Nat) (ops : Array Oper) (o : Oper) (env : List (Nat × AV)) (E H0 : Hp) (x : AV) (E' : Hp) : Prop :=
  okd n o.dst ∧ o.guard = none ∧ ∀ (a : Act) (w : World) (X : Act → World → Prop) (R : Exit → Act → World → Prop), a.defers = [] → a.tmps.size = n → OkW cx (E ++ H0) w →
    (∀ t ∈ o.looksAt ops, Rep w (imm cx w (E ++ H0)) (a.tmps.getD t undef) (look env t)) →
    (∀ v w', Rep w' (imm cx w' (E' ++ H0)) v x → OkW cx (E' ++ H0) w' → (∀ c, imm cx w (E ++ H0) c → imm cx w' (E' ++ H0) c ∧ w'.heap[c]? = w.heap[c]?) → X (a.put o.dst v) w') → o.wp P a w X R
theorem effE_call {o : Oper} {env : List (Nat × AV)} {E H0 E' : Hp} {x : AV} {q : Prop × FuncId × List AV} (hd : okd n o.dst) (hg : o.guard = none) (hc : calleeV env o.op = some q) (hq : q.1) (h : ECt P q.2.1 q.2.2 E x E') :
    EffE P cx n ops o env E H0 x E' := by
  refine ⟨hd, hg, fun a w X R h1 h2 h3 h4 h5 => ?_⟩
  have ok := ok_renv h1 h2 h3 h4
  have hre := opd_renv (ops := ops) (o := o) (env := env)
  obtain ⟨dst, op, type, pos, after, guard⟩ := o
  simp only at hc hd h5 hre ok
  unfold calleeV at hc
  split at hc
  · rename_i cl
    obtain ⟨callee, args, ts⟩ := cl
    simp only at hc
    split at hc
    · rename_i f
      simp only [Option.some.injEq] at hc
      subst hc
      simp only at hq h
      have he : ogs env args.toList = ogs (renv env (Oper.looksAt ops ⟨dst, .call ⟨.value (.func f), args, ts⟩, type, pos, after, guard⟩)) args.toList :=
        ogs_congr fun x hx => hre x (by simp [Op.operands, Call.operands]; exact .inr (by simpa using hx))
      rw [he] at hq h
      have hlen := ogs_length (env := renv env (Oper.looksAt ops ⟨dst, .call ⟨.value (.func f), args, ts⟩, type, pos, after, guard⟩)) args.toList
      have := run_ect (vs := args.map a.eval) ok h (by rw [hlen]; simp) (fun i hi => by
        have := ok.ogs hq i (by rw [hlen] at hi; exact hi)
        simpa [List.getD] using this)
      unfold Oper.wp
      have hrun : (execOp a.eval ⟨dst, .call ⟨.value (.func f), args, ts⟩, type, pos, after, guard⟩).run P w = (callFunc f (args.map a.eval)).run P w := by
        simp only [execOp, resolve, Act.eval, Deferred.ofValue, Sem.run_bind, Sem.run_pure, Result.andThen_ok, invoke, Array.append_empty, Array.empty_append]
        try simp
      refine this.upon hrun ?_
      rintro e w' ⟨v, rfl, hrep, c1, c2⟩
      exact ⟨_, rfl, h5 v w' hrep c1 c2⟩
    · cases hc
  · cases hc
theorem hget_left {b : Nat} {m : MB} {H0 : Hp} : ∀ {E : Hp}, hget E b = some m → hget (E ++ H0) b = some m
  | [], h => by cases h
  | (b', m') :: r, h => by
    simp only [hget, List.cons_append] at h ⊢
    split
    · rename_i e; rw [if_pos e] at h; exact h
    · rename_i e; rw [if_neg e] at h; exact hget_left h
theorem hset_left {b : Nat} {m m' : MB} {H0 : Hp} : ∀ {E : Hp}, hget E b = some m → hset (E ++ H0) b m' = hset E b m' ++ H0
  | [], h => by cases h
  | (b', m2) :: r, h => by
    simp only [hget, hset, List.cons_append] at h ⊢
    split
    · rfl
    · rename_i e
      rw [if_neg e] at h
      rw [List.cons_append, hset_left h]
/-- A store into a block of ours. -/
theorem effE_store {o : Oper} {T : TypeId} {ad y : Operand} {env : List (Nat × AV)} {E H0 : Hp} {b off : Nat} {m : MB} (hd : okd n o.dst) (hg : o.guard = none) (ho : o.op = .store T ad y) (ha : (og env ad).1)
    (had : (og env ad).2 = .lit (.pointer (some ⟨b, off, none⟩))) (hb : hget E b = some m) (hx : (og env y).1) (hst : (stC P T m off (og env y).2).1) :
    EffE P cx n ops o env E H0 (.lit undef) (hset E b (stC P T m off (og env y).2).2) := by
  refine ⟨hd, hg, fun a w X R h1 h2 h3 h4 h5 => ?_⟩
  have ok := ok_renv h1 h2 h3 h4
  have hre := opd_renv (ops := ops) (o := o) (env := env)
  obtain ⟨dst, op, type, pos, after, guard⟩ := o
  simp only at ho hd h5 hre ok
  subst ho
  have e1 : og env ad = og (renv env (Oper.looksAt ops ⟨dst, .store T ad y, type, pos, after, guard⟩)) ad := og_congr (hre ad (by simp [Op.operands]))
  have e2 : og env y = og (renv env (Oper.looksAt ops ⟨dst, .store T ad y, type, pos, after, guard⟩)) y := og_congr (hre y (by simp [Op.operands]))
  rw [e1] at ha had
  rw [e2] at hx hst h5
  have hv := ok.og ha
  rw [had] at hv
  have hv := hv.lit_inv
  obtain ⟨w', r1, r2, r3⟩ := run_store_of (P := P) ok.world (hget_left hb) (ok.og hx) hst
  rw [hset_left hb] at r2 r3
  unfold Oper.wp
  have hrun : (execOp a.eval ⟨dst, .store T ad y, type, pos, after, guard⟩).run P w = .ok .skip w' := by
    simp only [execOp, Sem.run_bind, hv, r1, Result.andThen_ok, Sem.run_pure]
  rw [hrun]
  exact h5 undef w' (.lit _) r2 r3
def ExW (P : Program) (f : FuncId) (args : List AV) (E : Hp) (K : AV → Hp → Prop) (d : Hd K := .mk) : Prop := ∃ x E', ECt P f args E x E' ∧ K x E'
theorem ExW.mk {f : FuncId} {args : List AV} {E F R F0 : Hp} {K : AV → Hp → Prop} {x : AV} (hP : E.Perm (F ++ R)) (h : ACt P f args F (fun r F' => r = x ∧ F' = F0)) (hk : F0.map (·.1) = F.map (·.1)) (hK : K x (F0 ++ R)) : ExW P f args E K :=
  ⟨x, F0 ++ R, ⟨F, R, F0, hP, rfl, hk, h⟩, hK⟩
/-- One operation that only computes or looks. -/
def xst (P : Program) (ops : Array Oper) (H : Hp) (o : Oper) (env : List (Nat × AV)) (K : AV → Prop) : Prop :=
  match o.guard with
  | none => match pev P H env o.op with
    | some r => r.1 ∧ K r.2
    | none => match calleeOf P env o.op with
      | some q => q.1 ∧ ExF P q.2.1 q.2.2 H fun x => K x
      | none => False
  | some (j, want) => match gdOf env ops j want with
    | some c => match pev P H env o.op with
      | some r => (c = true → r.1) ∧ K (.gd c r.2)
      | none => match calleeOf P env o.op with
        | some q => (c = true → q.1) ∧ ExG c P q.2.1 q.2.2 H fun x => K (.gd c x)
        | none => False
    | none => False
theorem xst_stdy {o : Oper} {env : List (Nat × AV)} {H : Hp} {K : AV → Prop} (hd : okd n o.dst) (h : xst P ops H o env K) : ∃ x, Stdy P cx n ops o env H x ∧ StdyE P cx n ops o env H x ∧ K x := by
  unfold xst at h
  split at h
  · rename_i hg
    split at h
    · rename_i r hr
      exact ⟨r.2, stdy_pev hd hg hr h.1, fun E hE => stdy_pev hd hg (pev_app hE hr h.1) h.1, h.2⟩
    · split at h
      · rename_i q hq
        obtain ⟨hob, x, h1, h2⟩ := h
        exact ⟨x, stdy_call hd hg (dcall_of (s := ⟨env, H⟩) hq hob h1), fun E hE => stdy_call hd hg (dcall_app (dcall_of (s := ⟨env, H⟩) hq hob h1)), h2⟩
      · exact h.elim
  · rename_i j want hg
    split at h
    · rename_i c hc
      split at h
      · rename_i r hr
        refine ⟨_, stdy_pevG hd hg hc hr h.1, fun E hE => ?_, h.2⟩
        by_cases hct : c = true
        · exact stdy_pevG hd hg hc (pev_app hE hr (h.1 hct)) h.1
        · refine ⟨hd, fun a w X R h1 h2 h3 h4 h5 => ?_⟩
          have ok := ok_renv h1 h2 h3 h4
          rw [wanted_of_gd ok hg (by rw [gdOf_renv hg]; exact hc)]
          rw [if_neg hct]
          have hcf : c = false := by cases c <;> simp_all
          subst hcf
          exact h5 undef w (.gdf _) h3 fun c hc => ⟨hc, rfl⟩
      · split at h
        · rename_i q hq
          obtain ⟨hob, x, h1, h2⟩ := h
          exact ⟨_, stdy_callG hd hg hc fun hct => dcall_of (s := ⟨env, H⟩) hq (hob hct) (h1 hct), fun E hE => stdy_callG hd hg hc fun hct => dcall_app (dcall_of (s := ⟨env, H⟩) hq (hob hct) (h1 hct)), h2⟩
        · exact h.elim
    · exact h.elim
/-- What is ahead of the parting: calls that change (at ws), looks at what they change (at ls), what only computes. -/
def xvc (P : Program) (n : Nat) (ops : Array Oper) (ws ls : List Nat) (H0 : Hp) : Nat → List Oper → (List (Nat × AV) → Hp → Prop) → List (Nat × AV) → Hp → Prop
  | _, [], K, env, E => K env E
  | i, o :: rest, K, env, E => okd n o.dst ∧
    if i ∈ ws then o.guard = none ∧ match o.op with
      | .store T ad y => match (og env ad).2 with
        | .lit (.pointer (some ⟨b, off, none⟩)) => match hget E b with
          | some m => (og env ad).1 ∧ (og env y).1 ∧ (stC P T m off (og env y).2).1 ∧ xvc P n ops ws ls H0 (i + 1) rest K (putE env o.dst (.lit undef)) (hset E b (stC P T m off (og env y).2).2)
          | none => False
        | _ => False
      | _ => match calleeV env o.op with
        | some q => q.1 ∧ ExW P q.2.1 q.2.2 E fun x E' => xvc P n ops ws ls H0 (i + 1) rest K (putE env o.dst x) E'
        | none => False
    else xst P ops (if i ∈ ls then E ++ H0 else H0) o env fun x => xvc P n ops ws ls H0 (i + 1) rest K (putE env o.dst x) E
theorem SeqG.cons {C : Nat → Oper → AV → List (Nat × AV) → Prop} {o : Oper} {x : AV} {r : List (Oper × AV)} {env : List (Nat × AV)} (h0 : C 0 o x env) (h : SeqG (fun i => C (i + 1)) r (putE env o.dst x)) : SeqG C ((o, x) :: r) env := by
  have := SeqG.app (C := C) (A := [(o, x)]) (B := r) (env := env) (SeqG.one h0) (by
    simp only [envL, if_true, List.length_cons, List.length_nil]
    have e : (fun i => C (0 + 1 + i)) = fun i => C (i + 1) := by funext i; rw [show 0 + 1 + i = i + 1 by omega]
    rw [e]; exact h)
  exact this
def CX (P : Program) (cx : Cx) (n : Nat) (ops : Array Oper) (ws ls : List Nat) (H0 : Hp) (i0 : Nat) (Ev : Nat → Hp) (i : Nat) (o : Oper) (x : AV) (env : List (Nat × AV)) : Prop :=
  (i0 + i ∈ ws → EffE P cx n ops o env (Ev i) H0 x (Ev (i + 1))) ∧ (i0 + i ∉ ws → Ev (i + 1) = Ev i ∧ (i0 + i ∈ ls → Stdy P cx n ops o env (Ev i ++ H0) x) ∧ (i0 + i ∉ ls → StdyE P cx n ops o env H0 x))
theorem xvc_seq {ws ls : List Nat} {H0 : Hp} {K : List (Nat × AV) → Hp → Prop} : ∀ (l : List Oper) (i0 : Nat) (env : List (Nat × AV)) (E : Hp), xvc P n ops ws ls H0 i0 l K env E →
    ∃ (xs : List AV) (Ev : Nat → Hp), xs.length = l.length ∧ Ev 0 = E ∧ (∀ i, ((Ev i).map (·.1)).Perm (E.map (·.1))) ∧ SeqG (CX P cx n ops ws ls H0 i0 Ev) (l.zip xs) env ∧ K (envL (fun _ => true) (l.zip xs) 0 env) (Ev l.length)
  | [], i0, env, E, h => ⟨[], fun _ => E, rfl, rfl, fun _ => .refl _, fun i o x hi => by simp at hi, h⟩
  | o :: rest, i0, env, E, h => by
    unfold xvc at h
    obtain ⟨hd, h⟩ := h
    have fin : ∀ (x : AV) (E1 : Hp), ((E1.map (·.1)).Perm (E.map (·.1))) → (i0 ∈ ws → EffE P cx n ops o env E H0 x E1) → (i0 ∉ ws → E1 = E ∧ (i0 ∈ ls → Stdy P cx n ops o env (E ++ H0) x) ∧ (i0 ∉ ls → StdyE P cx n ops o env H0 x)) →
        xvc P n ops ws ls H0 (i0 + 1) rest K (putE env o.dst x) E1 → ∃ (xs : List AV) (Ev : Nat → Hp), xs.length = (o :: rest).length ∧ Ev 0 = E ∧ (∀ i, ((Ev i).map (·.1)).Perm (E.map (·.1))) ∧
          SeqG (CX P cx n ops ws ls H0 i0 Ev) ((o :: rest).zip xs) env ∧ K (envL (fun _ => true) ((o :: rest).zip xs) 0 env) (Ev (o :: rest).length) := by
      intro x E1 hp hA hB hx
      obtain ⟨xs, Ev, g1, g2, g3, g4, g5⟩ := xvc_seq rest (i0 + 1) _ _ hx
      refine ⟨x :: xs, fun i => match i with | 0 => E | i + 1 => Ev i, by simp [g1], rfl, fun i => ?_, ?_, ?_⟩
      · cases i with
        | zero => exact .refl _
        | succ i => exact (g3 i).trans hp
      · rw [List.zip_cons_cons]
        refine SeqG.cons ⟨fun hi => ?_, fun hi => ?_⟩ (fun i o' x' hi => ?_)
        · simp only [Nat.add_zero, Nat.zero_add, g2] at hi ⊢; exact hA hi
        · simp only [Nat.add_zero, Nat.zero_add, g2] at hi ⊢; exact hB hi
        · have := g4 i o' x' hi
          unfold CX at this ⊢
          dsimp only
          rw [show i0 + (i + 1) = i0 + 1 + i by omega]
          exact this
      · simp only [List.zip_cons_cons, envL, if_true, List.length_cons, envL_shift]
        exact g5
    by_cases hw : i0 ∈ ws
    · rw [if_pos hw] at h
      obtain ⟨hg, h⟩ := h
      split at h
      · rename_i T ad y ho
        split at h
        · rename_i b off had
          split at h
          · rename_i m hm
            obtain ⟨ha, hy, hst, hk⟩ := h
            exact fin (.lit undef) _ (by rw [hset_keys]) (fun _ => effE_store hd hg ho ha had hm hy hst) (fun hn => absurd hw hn) hk
          · exact h.elim
        · exact h.elim
      · split at h
        · rename_i q hq
          obtain ⟨hob, x, E1, hE, hk⟩ := h
          refine fin x E1 ?_ (fun _ => effE_call hd hg hq hob hE) (fun hn => absurd hw hn) hk
          obtain ⟨F, R, F0, hP, rfl, hkk, _⟩ := hE
          rw [List.map_append, hkk, ← List.map_append]
          exact (hP.map _).symm
        · exact h.elim
    · rw [if_neg hw] at h
      obtain ⟨x, s1, s2, hk⟩ := xst_stdy (cx := cx) hd h
      refine fin x E (.refl _) (fun hn => absurd hn hw) (fun _ => ⟨rfl, fun hl => ?_, fun hl => ?_⟩) hk
      · rw [if_pos hl] at s1; exact s1
      · rw [if_neg hl] at s2; exact s2
/-! ### The order -/
def chB (ops : Array Oper) (c : Nat) (ws ls : List Nat) : Bool :=
  ws.all (fun v => decide (v < c) && ws.all fun u => !decide (u < v) || reach ops 12 v u) && ls.all fun l => ws.all fun v => (!decide (v < l) || reach ops 12 l v) && (!decide (l < v) || reach ops 12 v l)
def cutB (ops : Array Oper) (c : Nat) : Bool :=
  decide (c < ops.size) && (List.range c).all (reach ops 12 c) && (List.range ops.size).all fun j => decide (j ≤ c) || reach ops 12 j c
theorem reach_of_listed {listed : Array Bool} (hc : Closed ops listed) {f i j : Nat} {oi : Oper} (ho : ops[i]? = some oi) (hl : listed.getD i false = true) (h : reach ops f i j = true) : listed.getD j false = true :=
  reach_listed hc f i j h fun oi' ho' m hw => hc i oi' ho' hl m hw
theorem reach_of_ready {listed : Array Bool} (hc : Closed ops listed) {f i j : Nat} (hi : i ∈ Region.ready .any ops listed) (h : reach ops f i j = true) : listed.getD j false = true :=
  reach_listed hc f i j h fun oi' ho' m hw => ready_waits hi ho' hw
structure DInvX (cx : Cx) (n : Nat) (ops : Array Oper) (lx : List (Oper × AV)) (env : List (Nat × AV)) (H0 : Hp) (ws : List Nat) (c : Nat) (Ev : Nat → Hp) (listed : Array Bool) (a : Act) (w : World) : Prop where
  lsize : listed.size = ops.size
  behind : ∀ j, c ≤ j → listed.getD j false = false
  inv : ∃ m, m ≤ c ∧ (∀ j ∈ ws, listed.getD j false = decide (j < m)) ∧ DInv cx n ops lx env (Ev m ++ H0) listed a w
theorem ev_eq {ws : List Nat} {c : Nat} {Ev : Nat → Hp} (hE : ∀ j, j < c → j ∉ ws → Ev (j + 1) = Ev j) : ∀ (d m : Nat), m + d ≤ c → (∀ j ∈ ws, ¬ (m ≤ j ∧ j < m + d)) → Ev (m + d) = Ev m
  | 0, m, _, _ => rfl
  | d + 1, m, h1, h2 => by
    have hn : m + d ∉ ws := fun hm => h2 _ hm ⟨by omega, by omega⟩
    rw [← Nat.add_assoc, hE (m + d) (by omega) hn]
    exact ev_eq hE d m (by omega) fun j hj hh => h2 j hj ⟨hh.1, by omega⟩
theorem ev_same {ws : List Nat} {c : Nat} {Ev : Nat → Hp} (hE : ∀ j, j < c → j ∉ ws → Ev (j + 1) = Ev j) {m i : Nat} (hm : m ≤ c) (hi : i ≤ c) (h : ∀ j ∈ ws, (j < m ↔ j < i)) : Ev m = Ev i := by
  rcases Nat.le_total m i with hmi | hmi
  · obtain ⟨d, rfl⟩ := Nat.exists_eq_add_of_le hmi
    exact (ev_eq hE d m hi fun j hj hh => by have := (h j hj).2 hh.2; omega).symm
  · obtain ⟨d, rfl⟩ := Nat.exists_eq_add_of_le hmi
    exact ev_eq hE d i hm fun j hj hh => by have := (h j hj).1 hh.2; omega
theorem dinvX_step {lx : List (Oper × AV)} {env : List (Nat × AV)} {H0 : Hp} {ws ls : List Nat} {c : Nat} {Ev : Nat → Hp} {listed : Array Bool} {a : Act} {w : World} {i : Nat} (hD : DrawOk ops lx.length) (hlx : ∀ (j : Nat) o x, lx[j]? = some (o, x) → ops[j]? = some o)
    (hS : SeqG (fun i o x env => i < c → CX P cx n ops ws ls H0 0 Ev i o x env) lx env) (hcl : c ≤ lx.length) (hch : chB ops c ws ls = true) (hfr : ∀ i, ∀ p ∈ Ev i, fresh H0 p.1)
    (inv : DInvX cx n ops lx env H0 ws c Ev listed a w) (hi : i ∈ Region.ready .any ops listed) (hik : i < c) {R : Exit → Act → World → Prop} {X : Act → World → Prop}
    (hX : ∀ a' w', DInvX cx n ops lx env H0 ws c Ev (listed.setIfInBounds i true) a' w' → X a' w') : wpOp P ops R i X a w := by
  obtain ⟨⟨o, x⟩, hp⟩ : ∃ p, lx[i] = p := ⟨_, rfl⟩
  have hli : lx[i]? = some (o, x) := by rw [List.getElem?_eq_getElem (by omega), hp]
  have hoi := hlx i o x hli
  have hilt : i < ops.size := (Array.getElem?_eq_some_iff.1 hoi).1
  obtain ⟨m, hmc, hm, hinv⟩ := inv.inv
  have hcl2 := hinv.closed
  unfold chB at hch
  rw [Bool.and_eq_true] at hch
  obtain ⟨hch1, hch2⟩ := hch
  have hws : ∀ v ∈ ws, v < c ∧ ∀ u ∈ ws, u < v → reach ops 12 v u = true := fun v hv => by
    have := List.all_eq_true.1 hch1 v hv
    rw [Bool.and_eq_true] at this
    refine ⟨of_decide_eq_true this.1, fun u hu huv => ?_⟩
    have := List.all_eq_true.1 this.2 u hu
    simpa [huv] using this
  have hls : ∀ l ∈ ls, ∀ v ∈ ws, (v < l → reach ops 12 l v = true) ∧ (l < v → reach ops 12 v l = true) := fun l hl v hv => by
    have := List.all_eq_true.1 (List.all_eq_true.1 hch2 l hl) v hv
    rw [Bool.and_eq_true] at this
    refine ⟨fun h => ?_, fun h => ?_⟩
    · simpa [h] using this.1
    · simpa [h] using this.2
  have hun : listed.getD i false = false := by
    have := (mem_ready.1 hi).1
    rwa [getD_bool (by rw [inv.lsize]; exact hilt)] at this
  have hset : ∀ j, (listed.setIfInBounds i true).getD j false = if j = i then true else listed.getD j false := by
    intro j
    by_cases hji : j = i
    · subst hji
      have : j < listed.size := by rw [inv.lsize]; exact hilt
      simp [this]
    · rw [if_neg hji, getD_set_ne false (Ne.symm hji)]
  have hlsz : (listed.setIfInBounds i true).size = ops.size := by simp [inv.lsize]
  have hbeh : ∀ j, c ≤ j → (listed.setIfInBounds i true).getD j false = false := fun j hj => by rw [hset, if_neg (by omega)]; exact inv.behind j hj
  have hE : ∀ j, j < c → j ∉ ws → Ev (j + 1) = Ev j := fun j hj hn => by
    obtain ⟨⟨oj, xj⟩, hpj⟩ : ∃ p, lx[j]'(by omega) = p := ⟨_, rfl⟩
    have hlj : lx[j]? = some (oj, xj) := by rw [List.getElem?_eq_getElem (by omega), hpj]
    have := (hS j oj xj hlj hj).2 (by rw [Nat.zero_add]; exact hn)
    exact this.1
  have hSi := hS i o x hli hik
  unfold CX at hSi
  rw [Nat.zero_add] at hSi
  by_cases hiw : i ∈ ws
  · obtain ⟨hd, hg, hef⟩ := hSi.1 hiw
    have hlow : ∀ j ∈ ws, j < i → listed.getD j false = true := fun j hj hji => reach_of_ready hcl2 hi ((hws i hiw).2 j hj hji)
    have hmi : ¬ i < m := fun h => by have := hm i hiw; rw [hun, decide_eq_true h] at this; cases this
    have hev : Ev m = Ev i := ev_same hE hmc (by omega) fun j hj => ⟨fun h => by omega, fun h => by
      have h1 := hlow j hj h
      rw [hm j hj] at h1
      exact of_decide_eq_true h1⟩
    rw [hev] at hinv
    have hlook := dinv_look hD hlx hinv hi hli
    have hwp := hef a w X R hinv.ok.defers hinv.ok.size hinv.ok.world (fun t ht => by rw [← hlook t ht]; exact hinv.ok.reps t) (fun v w' hv hw' hI => by
      have hd2 := dinv_put hD hlx hinv hi hli hd hv hw' hI
      refine hX _ _ ⟨hlsz, hbeh, i + 1, by omega, fun j hj => ?_, hd2⟩
      rw [hset]
      by_cases hji : j = i
      · subst hji; simp
      · rw [if_neg hji]
        by_cases hlt : j < i
        · rw [hlow j hj hlt, decide_eq_true (by omega)]
        · rw [hm j hj, decide_eq_false (by omega), decide_eq_false (by omega)])
    unfold wpOp
    rw [hoi]
    simp only
    rw [if_pos (by simp [Region.wanted, hg])]
    exact .inl hwp
  · obtain ⟨_, h1, h2⟩ := hSi.2 hiw
    have hnew : ∀ j ∈ ws, (listed.setIfInBounds i true).getD j false = decide (j < m) := fun j hj => by
      rw [hset, if_neg (fun h => hiw (by rw [← h]; exact hj))]; exact hm j hj
    have hst : Stdy P cx n ops o (envL (fun j => decide (j < i)) lx 0 env) (Ev m ++ H0) x := by
      by_cases hil : i ∈ ls
      · have hev : Ev m = Ev i := ev_same hE hmc (by omega) fun j hj => by
          have hji : j ≠ i := fun h => hiw (h ▸ hj)
          refine ⟨fun h => ?_, fun h => ?_⟩
          · apply Classical.byContradiction; intro hn
            have hl : listed.getD j false = true := by rw [hm j hj, decide_eq_true h]
            obtain ⟨oj, hoj⟩ : ∃ oj, ops[j]? = some oj := ⟨_, Array.getElem?_eq_getElem (by have := (hws j hj).1; have := hD.le; omega)⟩
            have := reach_of_listed hcl2 hoj hl ((hls i hil j hj).2 (by omega))
            rw [hun] at this; cases this
          · have := reach_of_ready hcl2 hi ((hls i hil j hj).1 h)
            rw [hm j hj] at this
            exact of_decide_eq_true this
        rw [hev]; exact h1 hil
      · exact h2 hil (Ev m) (hfr m)
    exact dinv_stepS hD hlx hli hst hinv hi fun v w' hd => hX _ _ ⟨hlsz, hbeh, m, hmc, hnew, hd⟩
/-! ### Ahead of the parting, the parting, behind it -/
theorem head_to {k : Nat} {R : Exit → Act → World → Prop} {Inv : Array Bool → Act → World → Prop} (hle : k ≤ ops.size) (hback : ∀ (i : Nat) oi, ops[i]? = some oi → ∀ e ∈ oi.after, Region.binds .any e = true → e.on < i)
    (htail : ∀ listed a w, Inv listed a w → ∀ i, k ≤ i → i ∈ Region.ready .any ops listed → ∀ j, j < k → listed.getD j false = true)
    (hcl : ∀ listed a w, Inv listed a w → Closed ops listed) (hsz : ∀ listed a w, Inv listed a w → listed.size = ops.size)
    (hstep : ∀ listed a w i (X : Act → World → Prop), Inv listed a w → i ∈ Region.ready .any ops listed → i < k → (∀ a' w', Inv (listed.setIfInBounds i true) a' w' → X a' w') → wpOp P ops R i X a w) {g : Nat}
    (hfin : ∀ listed a w, Inv listed a w → (∀ j, j < k → listed.getD j false = true) → wpAny P .any ops R g listed a w) :
    ∀ (u : Nat) (listed : Array Bool) (a : Act) (w : World), ((List.range k).filter fun i => !listed.getD i false).length = u → Inv listed a w → wpAny P .any ops R (u + g) listed a w
  | 0, listed, a, w, hu, inv => by
    rw [Nat.zero_add]
    refine hfin listed a w inv fun j hj => ?_
    have := List.eq_nil_of_length_eq_zero hu
    rw [List.filter_eq_nil_iff] at this
    simpa using this j (List.mem_range.2 hj)
  | u + 1, listed, a, w, hu, inv => by
    have hls := hsz _ _ _ inv
    rw [show u + 1 + g = (u + g) + 1 by omega]
    obtain ⟨m, hm1, hm2⟩ : ∃ m, m < k ∧ listed.getD m false = false := by
      cases hf : ((List.range k).filter fun i => !listed.getD i false) with
      | nil => rw [hf] at hu; cases hu
      | cons m r =>
        have : m ∈ (List.range k).filter fun i => !listed.getD i false := by rw [hf]; exact List.mem_cons_self ..
        rw [List.mem_filter] at this
        exact ⟨m, List.mem_range.1 this.1, by simpa using this.2⟩
    obtain ⟨i0, h1, h2, h3⟩ := least (p := fun i => listed.getD i false) hm2
    have hi0 : i0 < ops.size := by omega
    have hready0 : i0 ∈ Region.ready .any ops listed := by
      refine mem_ready.2 ⟨by rw [getD_bool (by rw [hls]; exact hi0)]; exact h2, ops[i0], Array.getElem?_eq_getElem hi0, fun e he hb => h3 _ (hback i0 _ (Array.getElem?_eq_getElem hi0) e he hb)⟩
    refine ⟨fun h => (by rw [h] at hready0; cases hready0), fun i hi => ?_⟩
    obtain ⟨hun, oi, hoi, _⟩ := mem_ready.1 hi
    have hilt : i < ops.size := (Array.getElem?_eq_some_iff.1 hoi).1
    have hik : i < k := by
      rcases Nat.lt_or_ge i k with h | h
      · exact h
      · have := htail listed a w inv i h hi m hm1
        rw [hm2] at this
        cases this
    have hun' : listed.getD i false = false := by rw [← getD_bool (by rw [hls]; exact hilt)]; exact hun
    refine hstep listed a w i _ inv hi hik fun a' w' inv' => head_to hle hback htail hcl hsz hstep hfin u _ a' w' ?_ inv'
    have hcount : ∀ (l : List Nat), l.Nodup → i ∈ l → (l.filter fun j => !listed.getD j false).length = ((l.filter fun j => !(listed.setIfInBounds i true).getD j false).length) + 1 := by
      intro l
      induction l with
      | nil => intro _ h; cases h
      | cons c r ih =>
        intro hn hmem
        simp only [List.nodup_cons] at hn
        by_cases hci : c = i
        · subst hci
          have hset : (listed.setIfInBounds c true).getD c false = true := by
            have : c < listed.size := by rw [hls]; exact hilt
            simp [this]
          have hrest : (r.filter fun j => !listed.getD j false) = r.filter fun j => !(listed.setIfInBounds c true).getD j false := by
            refine List.filter_congr fun j hj => ?_
            have : j ≠ c := fun h => hn.1 (h ▸ hj)
            rw [getD_set_ne false (Ne.symm this)]
          rw [List.filter_cons, List.filter_cons, hun', hset, hrest]
          simp
        · have hmem' : i ∈ r := by rcases List.mem_cons.1 hmem with h | h; exact absurd h.symm hci; exact h
          have := ih hn.2 hmem'
          rw [List.filter_cons, List.filter_cons, getD_set_ne false (Ne.symm hci)]
          split
          · simp only [List.length_cons]; omega
          · exact this
    have := hcount (List.range k) List.nodup_range (List.mem_range.2 hik)
    omega
theorem Stdy.congr {o : Oper} {env env' : List (Nat × AV)} {H : Hp} {x : AV} (h : ∀ t, look env t = look env' t) (hS : Stdy P cx n ops o env H x) : Stdy P cx n ops o env' H x :=
  ⟨hS.1, fun a w X R h1 h2 h3 h4 h5 => hS.2 a w X R h1 h2 h3 (fun t ht => by rw [h t]; exact h4 t ht) h5⟩
theorem envL_same {s : List (Nat × AV)} {f : Nat → Bool} : ∀ (l : List Oper) (k : Nat) (env : List (Nat × AV)), (∀ t, look env t = look s t) →
    ∀ t, look (envL f (l.map fun o => (o, match o.dst with | some d => look s d | none => .any)) k env) t = look s t
  | [], _, env, h, t => h t
  | o :: r, k, env, h, t => by
    simp only [List.map_cons, envL]
    refine envL_same r (k + 1) _ (fun t => ?_) t
    split
    · rw [look_putE]
      split
      · rename_i hd; rw [hd]
      · exact h t
    · exact h t
theorem count_gt (c : Nat) : ∀ N, ((List.range N).filter fun i => !decide (i ≤ c)).length = N - (c + 1)
  | 0 => by simp
  | N + 1 => by
    rw [List.range_succ, List.filter_append, List.length_append, count_gt c N]
    by_cases h : N ≤ c
    · simp [h]; omega
    · simp [h]; omega
/-- Behind the parting: what computes or looks, in any order. -/
theorem rest_any {c : Nat} {l : List Oper} (hops : l.toArray = ops) (hD : DrawOk ops ops.size) (hc : c < ops.size) {s : St} {K : St → Prop} {R : Exit → Act → World → Prop} (h : dvc P n ops (l.drop (c + 1)) K s) (hR : ∀ s a w, K s → Ok cx n s a w → R .normal a w)
    {listed : Array Bool} {a : Act} {w : World} (hls : listed.size = ops.size) (hl : ∀ j, listed.getD j false = decide (j ≤ c)) (hcl : Closed ops listed) (ok : Ok cx n s a w) :
    wpAny P .any ops R (ops.size - (c + 1)) listed a w := by
  have hlen : l.length = ops.size := by rw [← hops]; simp
  obtain ⟨xs, x1, S1, K1⟩ := dvc_seqv (cx := cx) _ _ h
  obtain ⟨A, hA⟩ : ∃ A : List (Oper × AV), A = (l.take (c + 1)).map fun o => (o, match o.dst with | some d => look s.env d | none => .any) := ⟨_, rfl⟩
  obtain ⟨B, hB⟩ : ∃ B, B = (l.drop (c + 1)).zip xs := ⟨_, rfl⟩
  rw [← hB] at S1 K1
  have lA : A.length = c + 1 := by rw [hA]; simp; omega
  have lB : B.length = ops.size - (c + 1) := by rw [hB]; simp [x1]; omega
  have fB : B.map (·.1) = l.drop (c + 1) := by rw [hB]; exact List.map_fst_zip (by omega)
  have fA : A.map (·.1) = l.take (c + 1) := by rw [hA, List.map_map]; exact List.map_id' _
  obtain ⟨lx, hlxe⟩ : ∃ lx, lx = A ++ B := ⟨_, rfl⟩
  have llx : lx.length = ops.size := by rw [hlxe, List.length_append, lA, lB]; omega
  have hlx : ∀ (j : Nat) o x, lx[j]? = some (o, x) → ops[j]? = some o := by
    intro j o x hj
    have h1 : (lx.map (·.1))[j]? = some o := by rw [List.getElem?_map, hj]; rfl
    rw [hlxe, List.map_append, fA, fB, List.take_append_drop] at h1
    rw [← hops]; simpa using h1
  have henvA : ∀ (f : Nat → Bool) t, look (envL f A 0 s.env) t = look s.env t := fun f t => by rw [hA]; exact envL_same _ 0 _ (fun _ => rfl) t
  have hbase : ∀ (f : Nat → Bool) t, look (envL f lx 0 s.env) t = look (envL (fun j => f (c + 1 + j)) B 0 s.env) t := by
    intro f t
    rw [hlxe, envL_append, Nat.zero_add, lA, show c + 1 = c + 1 + 0 from rfl, envL_shiftk (c + 1) B 0]
    exact envL_congr B 0 _ _ (henvA f t) fun _ _ _ _ _ => rfl
  have inv0 : DInv cx n ops lx s.env s.H listed a w := by
    refine ⟨hls, hcl, fun t ht ht' => by omega, ok.defers, ok.size, fun t => ?_, ok.world⟩
    have e : look (envL (fun j => listed.getD j false) lx 0 s.env) t = look s.env t := by
      rw [hbase]
      rw [envL_none B 0 s.env fun j _ => by rw [hl]; simp; omega]
    rw [e]; exact ok.reps t
  have hD' : DrawOk ops lx.length := by rw [llx]; exact hD
  have hcount : ((List.range ops.size).filter fun i => !listed.getD i false).length = ops.size - (c + 1) := by
    have e : (fun i => !listed.getD i false) = fun i => !decide (i ≤ c) := by funext i; rw [hl]
    rw [e]
    exact count_gt c ops.size
  have := head_to (P := P) (ops := ops) (k := ops.size) (R := R) (g := 0) (Inv := fun li a w => (∀ j, j ≤ c → li.getD j false = true) ∧ DInv cx n ops lx s.env s.H li a w) (Nat.le_refl _) hD.back
    (fun li _ _ _ i hi hr => by
      obtain ⟨_, oi, hoi, _⟩ := mem_ready.1 hr
      have := (Array.getElem?_eq_some_iff.1 hoi).1
      omega)
    (fun _ _ _ inv => inv.2.closed) (fun _ _ _ inv => inv.2.lsize)
    (fun li a w i X inv hi hik hX => by
      have hun : li.getD i false = false := by
        have := (mem_ready.1 hi).1
        rwa [getD_bool (by rw [inv.2.lsize]; exact hik)] at this
      have hci : c < i := by
        apply Classical.byContradiction; intro hn
        rw [inv.1 i (by omega)] at hun; cases hun
      obtain ⟨⟨o, x⟩, hp⟩ : ∃ p, lx[i]'(by omega) = p := ⟨_, rfl⟩
      have hli : lx[i]? = some (o, x) := by rw [List.getElem?_eq_getElem (by omega), hp]
      have hBi : B[i - (c + 1)]? = some (o, x) := by
        rw [hlxe, List.getElem?_append_right (by omega), lA] at hli
        exact hli
      have hS := S1 _ _ _ hBi
      refine dinv_stepS hD' hlx hli (hS.congr fun t => ?_) inv.2 hi fun v w' hd => hX _ _ ⟨fun j hj => ?_, hd⟩
      · rw [hbase]
        congr 1
        refine envL_ext B 0 _ fun j _ _ => ?_
        rw [Bool.eq_iff_iff]; simp; omega
      · rw [getD_set_ne false (by omega)]; exact inv.1 j hj)
    (fun li a w inv hall => by
      refine ⟨?_, ?_⟩
      · apply List.eq_nil_iff_forall_not_mem.2
        intro i hi
        obtain ⟨hun, oi, hoi, _⟩ := mem_ready.1 hi
        have hilt := (Array.getElem?_eq_some_iff.1 hoi).1
        rw [getD_bool (by rw [inv.2.lsize]; exact hilt), hall i hilt] at hun
        cases hun
      · refine hR _ _ _ K1 ⟨inv.2.ok.defers, inv.2.ok.size, fun t => ?_, inv.2.ok.world⟩
        have e : look (envL (fun j => li.getD j false) lx 0 s.env) t = look (envL (fun _ => true) B 0 s.env) t := by
          rw [hbase]
          congr 1
          exact envL_ext B 0 _ fun j _ hj => hall _ (by omega)
        have := inv.2.ok.reps t
        simp only [e] at this
        exact this)
    _ listed a w hcount ⟨fun j hj => by rw [hl]; simp; omega, inv0⟩
  rwa [Nat.add_zero] at this
def splitH : List Nat → Hp → Option (Hp × Hp)
  | [], H => some ([], H)
  | b :: bs, H => match hget H b with
    | some m => match splitH bs (hdel H b) with
      | some q => some ((b, m) :: q.1, q.2)
      | none => none
    | none => none
theorem splitH_perm : ∀ {bs : List Nat} {H : Hp} {q : Hp × Hp}, splitH bs H = some q → H.Perm (q.1 ++ q.2)
  | [], H, q, h => by cases h; exact .refl _
  | b :: bs, H, q, h => by
    unfold splitH at h
    split at h
    · rename_i m hm
      split at h
      · rename_i q' hq'
        cases h
        exact (hget_perm hm).trans (List.Perm.cons _ (splitH_perm hq'))
      · cases h
    · cases h
def drawCF (P : Program) (n : Nat) (l : List Oper) (K : St → Prop) (c : Nat) (ws ls bs : List Nat) (s : St) : Prop :=
  match splitH bs s.H with
  | some q => xvc P n l.toArray ws ls q.2 0 (l.take c) (fun env E => match l.drop c with
    | o :: r => okd n o.dst ∧ o.guard = none ∧ eff P o (fun s' => dvc P n l.toArray r K s') ⟨env, E ++ q.2⟩
    | [] => False) s.env q.1
  | none => False
theorem WP.drawC {id c : Nat} {ws ls bs : List Nat} {l : List Oper} {Q : Exit → St → Prop} {s : St} (hm : P.follows .mixedOrders = true) (hB : drawB l.toArray l.length = true) (hcut : cutB l.toArray c = true) (hch : chB l.toArray c ws ls = true)
    (h : drawCF P n l (Q .normal) c ws ls bs s) : WP P cx n (.region id l.toArray true) Q s := by
  intro a w ok0
  have hD : DrawOk l.toArray l.toArray.size := by have := drawB_spec hB; simpa using this
  unfold cutB at hcut
  simp only [Bool.and_eq_true, decide_eq_true_eq] at hcut
  obtain ⟨⟨hcs, hc1⟩, hc2⟩ := hcut
  have hcl : c < l.length := by simpa using hcs
  have hr1 : ∀ j, j < c → reach l.toArray 12 c j = true := fun j hj => List.all_eq_true.1 hc1 j (List.mem_range.2 hj)
  have hr2 : ∀ j, c < j → j < l.toArray.size → reach l.toArray 12 j c = true := fun j hj hjs => by
    have := List.all_eq_true.1 hc2 j (List.mem_range.2 hjs)
    rw [Bool.or_eq_true] at this
    rcases this with h | h
    · have := of_decide_eq_true h; omega
    · exact h
  unfold drawCF at h
  split at h
  case h_2 => exact h.elim
  rename_i q hq
  obtain ⟨E0, H0⟩ := q
  simp only at h
  have hperm := splitH_perm hq
  simp only at hperm
  have ok : Ok cx n ⟨s.env, E0 ++ H0⟩ a w := Ok.permH hperm ok0
  have hnd := ok.world.nodup
  simp only [List.map_append, List.nodup_append] at hnd
  obtain ⟨xs, Ev, g1, g2, g3, g4, g5⟩ := xvc_seq (cx := cx) _ _ _ _ h
  have hfr : ∀ i, ∀ p ∈ Ev i, fresh H0 p.1 := fun i p hp r hr => by
    have h1 : p.1 ∈ E0.map (·.1) := (g3 i).mem_iff.1 (List.mem_map_of_mem hp)
    have hne := hnd.2.2 _ h1 _ (List.mem_map_of_mem hr)
    exact ⟨Ne.symm hne, hne⟩
  have lt : (l.take c).length = c := by simp; omega
  rw [lt] at g5
  obtain ⟨A, hA⟩ : ∃ A, A = (l.take c).zip xs := ⟨_, rfl⟩
  rw [← hA] at g4 g5
  have lA : A.length = c := by rw [hA]; simp [g1]; omega
  have fA : A.map (·.1) = l.take c := by rw [hA]; exact List.map_fst_zip (by omega)
  obtain ⟨D, hDD⟩ : ∃ D : List (Oper × AV), D = (l.drop c).map fun o => (o, AV.any) := ⟨_, rfl⟩
  have fD : D.map (·.1) = l.drop c := by rw [hDD, List.map_map]; exact List.map_id' _
  obtain ⟨lx, hlxe⟩ : ∃ lx, lx = A ++ D := ⟨_, rfl⟩
  have hlxf : lx.map (·.1) = l := by rw [hlxe, List.map_append, fA, fD, List.take_append_drop]
  have llx : lx.length = l.toArray.size := by have := congrArg List.length hlxf; simpa using this
  have hlx : ∀ (j : Nat) o x, lx[j]? = some (o, x) → l.toArray[j]? = some o := by
    intro j o x hj
    have h1 : (lx.map (·.1))[j]? = some o := by rw [List.getElem?_map, hj]; rfl
    rw [hlxf] at h1; simpa using h1
  have hS : SeqG (fun i o x env => i < c → CX P cx n l.toArray ws ls H0 0 Ev i o x env) lx s.env := by
    rw [hlxe]
    refine SeqG.app (fun i o x hi _ => g4 i o x hi) fun i o x hi hlt => ?_
    omega
  have hD' : DrawOk l.toArray lx.length := by rw [llx]; exact hD
  refine wp_region_any hm ?_
  have ok' : Ok cx n ⟨s.env, E0 ++ H0⟩ a { w with drawn := w.drawn + 1 } := by
    have hIw : ∀ b, imm cx w (E0 ++ H0) b → imm cx { w with drawn := w.drawn + 1 } (E0 ++ H0) b ∧ ({ w with drawn := w.drawn + 1 } : World).heap[b]? = w.heap[b]? := fun b hb => ⟨hb, rfl⟩
    refine ⟨ok.defers, ok.size, fun i => (ok.reps i).mono hIw, ⟨ok.world.nodup, ok.world.keys, fun x hx => (ok.world.mem x hx).mono hIw rfl, ⟨ok.world.ext.os, ok.world.ext.tape, ok.world.ext.output, ok.world.ext.size, ok.world.ext.blk⟩⟩⟩
  have henv0 : envL (fun j => (Array.replicate l.toArray.size false).getD j false) lx 0 s.env = s.env := envL_none _ _ _ fun j _ => getD_rep_false _ _
  have inv0 : DInvX cx n l.toArray lx s.env H0 ws c Ev (Array.replicate l.toArray.size false) a { w with drawn := w.drawn + 1 } := by
    refine ⟨by simp, fun j _ => getD_rep_false _ _, 0, Nat.zero_le _, fun j _ => by rw [getD_rep_false]; simp, by simp, fun j oj _ hl => ?_, fun t ht ht' => by omega, ?_⟩
    · rw [getD_rep_false] at hl; cases hl
    · rw [henv0, g2]; exact ok'
  have hcount : ((List.range c).filter fun i => !(Array.replicate l.toArray.size false).getD i false).length = c := by
    have : ((List.range c).filter fun i => !(Array.replicate l.toArray.size false).getD i false) = List.range c := by
      rw [List.filter_eq_self]
      intro j _
      rw [getD_rep_false]
      rfl
    rw [this]; simp
  have hrc : ∀ listed, Closed l.toArray listed → ∀ i, c ≤ i → i ∈ Region.ready .any l.toArray listed → ∀ j, j < c → listed.getD j false = true := by
    intro listed hcd i hi hr j hj
    by_cases hic : i = c
    · subst hic; exact reach_of_ready hcd hr (hr1 j hj)
    · obtain ⟨_, oi, hoi, _⟩ := mem_ready.1 hr
      have his := (Array.getElem?_eq_some_iff.1 hoi).1
      have hlc := reach_of_ready hcd hr (hr2 i (by omega) his)
      exact reach_of_listed hcd (Array.getElem?_eq_getElem hcs) hlc (hr1 j hj)
  have := head_to (P := P) (ops := l.toArray) (k := c) (R := fun e a' w' => ∃ s', Q e s' ∧ Ok cx n s' a' w') (g := l.toArray.size - c) (Inv := DInvX cx n l.toArray lx s.env H0 ws c Ev) (Nat.le_of_lt hcs) hD.back (fun li a w inv => hrc li (by obtain ⟨m, _, _, hi⟩ := inv.inv; exact hi.closed))
    (fun _ _ _ inv => by obtain ⟨m, _, _, hi⟩ := inv.inv; exact hi.closed) (fun _ _ _ inv => inv.lsize)
    (fun li a w i X inv hi hik hX => dinvX_step hD' hlx hS (by omega) hch hfr inv hi hik hX)
    (fun li a w inv hall => by
      obtain ⟨m, hmc, hmw, hinv⟩ := inv.inv
      have hli : ∀ j, li.getD j false = decide (j < c) := fun j => by
        by_cases hj : j < c
        · rw [hall j hj, decide_eq_true hj]
        · rw [inv.behind j (by omega), decide_eq_false hj]
      have hwsc : ∀ v ∈ ws, v < c := fun v hv => by
        unfold chB at hch
        rw [Bool.and_eq_true] at hch
        have := List.all_eq_true.1 hch.1 v hv
        rw [Bool.and_eq_true] at this
        exact of_decide_eq_true this.1
      have hE : ∀ j, j < c → j ∉ ws → Ev (j + 1) = Ev j := fun j hj hn => by
        obtain ⟨⟨oj, xj⟩, hpj⟩ : ∃ p, lx[j]'(by omega) = p := ⟨_, rfl⟩
        have hlj : lx[j]? = some (oj, xj) := by rw [List.getElem?_eq_getElem (by omega), hpj]
        exact ((hS j oj xj hlj hj).2 (by rw [Nat.zero_add]; exact hn)).1
      have hev : Ev m = Ev c := ev_same hE hmc (Nat.le_refl _) fun j hj => by
        have h1 := hwsc j hj
        have h2 := hmw j hj
        rw [hall j h1] at h2
        have := of_decide_eq_true h2.symm
        exact ⟨fun _ => h1, fun _ => this⟩
      rw [hev] at hinv
      have henv : ∀ t, look (envL (fun j => li.getD j false) lx 0 s.env) t = look (envL (fun _ => true) A 0 s.env) t := by
        intro t
        rw [hlxe, envL_append, envL_none D _ _ (fun j hj => by rw [hli, decide_eq_false (by omega)])]
        rw [envL_ext (g := fun _ => true) A 0 s.env fun j _ hj => by rw [hli, decide_eq_true (by omega)]]
      have hok : Ok cx n ⟨envL (fun _ => true) A 0 s.env, Ev c ++ H0⟩ a w := by
        refine ⟨hinv.ok.defers, hinv.ok.size, fun t => ?_, hinv.ok.world⟩
        have := hinv.ok.reps t
        simp only [henv t] at this
        exact this
      have K5 := g5
      split at K5
      case h_2 => exact K5.elim
      rename_i o r hor
      obtain ⟨hod, hog, hoe⟩ := K5
      have hoc : l.toArray[c]? = some o := by
        have : (l.drop c)[0]? = some o := by rw [hor]; rfl
        simpa using this
      have hrr : r = l.drop (c + 1) := by
        have : (l.drop c).drop 1 = r := by rw [hor]; rfl
        rw [← this, List.drop_drop]
      have hready : Region.ready .any l.toArray li ≠ [] := by
        intro hnil
        have : c ∈ Region.ready .any l.toArray li := by
          refine mem_ready.2 ⟨by rw [getD_bool (by rw [inv.lsize]; exact hcs), hli]; simp, o, hoc, fun e he hb => by
            have := hD.back c o hoc e he hb
            rw [hli, decide_eq_true this]⟩
        rw [hnil] at this; cases this
      rw [show l.toArray.size - c = (l.toArray.size - (c + 1)) + 1 by omega]
      refine ⟨fun h => absurd h hready, fun i hi => ?_⟩
      have hic : i = c := by
        obtain ⟨hun, oi, hoi, _⟩ := mem_ready.1 hi
        have hilt := (Array.getElem?_eq_some_iff.1 hoi).1
        rw [getD_bool (by rw [inv.lsize]; exact hilt), hli] at hun
        have h1 : ¬ i < c := of_decide_eq_false hun
        apply Classical.byContradiction; intro hne
        have := reach_of_ready hinv.closed hi (hr2 i (by omega) hilt)
        rw [hli] at this
        have := of_decide_eq_true this
        omega
      subst hic
      have hlsz : (li.setIfInBounds i true).size = l.toArray.size := by simp [inv.lsize]
      have hl2 : ∀ j, (li.setIfInBounds i true).getD j false = decide (j ≤ i) := by
        intro j
        by_cases hji : j = i
        · subst hji
          have : j < li.size := by rw [inv.lsize]; exact hcs
          simp [this]
        · rw [getD_set_ne false (Ne.symm hji), hli]
          rw [Bool.eq_iff_iff]; simp; omega
      have hcl2 := closed_set hinv.closed hi
      unfold wpOp
      rw [hoc]
      simp only
      rw [if_pos (by simp [Region.wanted, hog])]
      refine .inl ?_
      refine eff_sound (cx := cx) hod hoe _ _ (fun s' a' w' hs' ok'' => ?_) a w hok
      rw [hrr] at hs'
      exact rest_any rfl hD hcs hs' (fun s a w hk ok => ⟨s, hk, ok⟩) hlsz hl2 hcl2 ok'')
    c _ a _ hcount inv0
  have hN : c + (l.toArray.size - c) = l.toArray.size := by omega
  rw [hN] at this
  exact this
end
end Go.Proofs.YtjdjpgjjnajjhaaDoor
namespace Go.Proofs.YtjdjpgjjnajjhaaDoor
open Go
set_option linter.unusedSimpArgs false
set_option linter.unusedVariables false
section
variable {P : Program} {cx : Cx} {n : Nat} {ops : Array Oper}
/-- A call over blocks of E, of whatever outcome; those of H0 are not lent. -/
def WCt (P : Program) (f : FuncId) (args : List AV) (E H0 : Hp) (post : AV → Hp → Prop) (d : Hd post := .mk) : Prop :=
  ∃ F R p, E.Perm (F ++ R) ∧ ACt P f args F p ∧ ∀ r F', p r F' → (((F' ++ R) ++ H0).map (·.1)).Nodup → post r (F' ++ R)
theorem WCt.row {f : FuncId} {args : List AV} {E H0 : Hp} {b : Nat} {m : MB} {k : IntKind} {ty : TypeId} {zs : List Int} {post : AV → Hp → Prop} (hg : hget E b = some m) (h : ACt P f args [(b, m)] (Row k ty zs))
    (hp : Nu fun b' => Nu fun cap' => Fr (zs.length ≤ cap' ∧ cap' ≤ maxLen ∧ fresh (hdel E b ++ H0) b') (post (ms b' 0 zs.length cap') ((b', .zs k zs cap' ty) :: hdel E b))) : WCt P f args E H0 post := by
  refine ⟨[(b, m)], hdel E b, _, hget_perm hg, h, ?_⟩
  rintro r F' ⟨b', cap', h1, h2, rfl, rfl⟩ hn
  exact ((hp.out b').out cap').out ⟨h1, h2, fresh_of_nodup hn⟩
/-- A new row, handed back as one that nobody writes any more. -/
theorem ACt.fz {f : FuncId} {args : List AV} {F F0 : Hp} {k : IntKind} {ty : TypeId} {zs : List Int}
    (h : ACt P f args F (fun r F' => ∃ q : {p : Nat × Nat // zs.length ≤ p.2 ∧ p.2 ≤ 9223372036854775807}, r = ms q.1.1 0 zs.length q.1.2 ∧ F' = (q.1.1, .zs k zs q.1.2 ty) :: F0)) :
    ACt P f args F (fun r F' => r = .slz k zs ∧ F' = F0) := by
  intro cx vs h1 h2 h3 h4
  refine (h cx vs h1 h2 h3 h4).mono ?_
  rintro e w' ⟨v, r, F', he, ⟨q, rfl, rfl⟩, hw, hr⟩
  have hv := hr.lit_inv
  have hp : OkW cx (F0 ++ [(q.1.1, .zs k zs q.1.2 ty)]) w' := hw.perm (List.perm_append_comm (l₁ := [(q.1.1, MB.zs k zs q.1.2 ty)]))
  obtain ⟨d1, d2⟩ := hp.drop
  refine ⟨v, _, F0, he, ⟨rfl, rfl⟩, d1, ?_⟩
  rw [hv]
  have hm := hw.mem _ (List.mem_cons_self ..)
  have hlt := hm.lt
  obtain ⟨cur, e1, e2, e3, e4⟩ := hm
  have hn := hw.nodup
  simp only [List.map_cons, List.nodup_cons] at hn
  refine .slz _ _ _ _ q.2.1 (by rw [maxLen_eq]; exact q.2.2) (.inr ⟨q.1.1, 0, rfl, .inr ⟨hw.keys _ (List.mem_cons_self ..), hlt, fun x hx he => hn.1 (List.mem_map.2 ⟨x, hx, he⟩)⟩, fun i hi => ?_⟩)
  rw [Nat.zero_add, cell_of_block e1, e4 i hi]
/-- The same of what Row says. -/
theorem ACt.fzRow {f : FuncId} {args : List AV} {F : Hp} {k : IntKind} {ty : TypeId} {zs : List Int} (h : ACt P f args F (Row k ty zs)) : ACt P f args F (fun r F' => r = .slz k zs ∧ F' = []) := by
  refine ACt.fz (ty := ty) (h.mono ?_)
  rintro r F' ⟨b, cap, h1, h2, rfl, rfl⟩
  exact ⟨⟨(b, cap), h1, by rw [maxLen_eq] at h2; exact h2⟩, rfl, rfl⟩
end
end Go.Proofs.YtjdjpgjjnajjhaaDoor
namespace Go.Proofs.YtjdjpgjjnajjhaaDoor
open Go
set_option linter.unusedSimpArgs false
set_option linter.unusedVariables false
theorem CallV.newC {P : Program} {f : FuncId} {args : List AV} {H F R : Hp} {F0 : Nat → Nat → Hp} {post : AV → Hp → Prop} {φ : Nat → Nat → Prop} {x : Nat → Nat → AV} {m : Nat → Nat → MB}
    (h : ACt P f args F (fun r F' => ∃ b c, φ b c ∧ r = x b c ∧ F' = (b, m b c) :: F0 b c)) (hP : H.Perm (F ++ R)) (hk : ∀ b c, (F0 b c).map (·.1) = F.map (·.1))
    (hp : Nu fun b => Nu fun c => Fr (φ b c ∧ fresh H b) (post (x b c) ((b, m b c) :: (F0 b c ++ R)))) : CallV P f args H post :=
  ⟨F, R, _, hP, h, fun r F' hr hn => by
    obtain ⟨b, c, e0, e1, e2⟩ := hr
    subst e1 e2
    exact ((hp.out b).out c).out ⟨e0, fresh_perm hP (hk b c) hn⟩⟩
/-- A row that nobody will write any more: so it stands in other blocks' cells too. -/
theorem rep_frz {w : World} {I I0 : Nat → Prop} {b : Nat} {k : IntKind} {zs : List Int} {s0 ty : Nat} {v : Value} {x : AV} (hm : MOk w I0 b (.zs k zs s0 ty)) (hb : I b) (hr' : Rep w I v x) : Rep w I v (frz b k zs x) := by
  unfold frz
  split
  · rename_i b' off m cap
    split
    · rename_i he
      subst he
      split
      · rename_i hc
        obtain ⟨c1, c2, c3⟩ := hc
        have := hr'.lit_inv
        subst this
        obtain ⟨cur, d1, d2, d3, d4⟩ := hm
        have hl : ((zs.drop off).take m).length = m := by simp; omega
        have hrr : Rep w I (.slice (some ⟨b', off, none⟩) ((zs.drop off).take m).length cap) (.slz k ((zs.drop off).take m)) := by
          refine .slz _ _ _ _ (by omega) c3 (.inr ⟨b', off, rfl, hb, fun j hj => ?_⟩)
          have hj' : j < m := by omega
          rw [cell_of_block d1, d4 _ (by omega)]
          have : off + j < zs.length := by omega
          simp [List.getD, hj']
        rw [hl] at hrr
        exact hrr
      · exact .any _
    · exact hr'
  · exact hr'
/-- A contract over some blocks, as one over more of them. -/
theorem ACt.frm {P : Program} {f : FuncId} {args : List AV} {H F R : Hp} {p q : AV → Hp → Prop} (h : ACt P f args F p) (hP : H.Perm (F ++ R))
    (hq : ∀ r F', p r F' → ((F' ++ R).map (·.1)).Nodup → ∃ H' D, (F' ++ R).Perm (H' ++ D) ∧ q r H') : ACt P f args H q := by
  intro cx vs hK hw hs hv
  have hw1 := hw.perm hP
  have hIp : ∀ b, imm cx cx.w0 H b → imm cx cx.w0 (F ++ R) b := fun b hb => (imm_perm hP).1 hb
  have hI : ∀ b, imm cx cx.w0 H b → b < cx.w0.heap.size ∧ b ∉ F.map (·.1) := fun b hb => ⟨imm_lt hw1.ext.size hb, fun hm => by
    obtain ⟨x, hx, he⟩ := List.mem_map.1 hm
    exact imm_key hw1.keys (hIp b hb) x (List.mem_append_left _ hx) he⟩
  have hnd := hw1.nodup
  rw [List.map_append, List.nodup_append] at hnd
  have := h ⟨cx.w0, imm cx cx.w0 H, F.map (·.1), hI⟩ vs rfl ⟨hnd.1, fun x hx => .inl (List.mem_map_of_mem hx), fun x hx => (hw1.mem x (List.mem_append_left _ hx)).mono (fun b hb => ⟨.inl ((imm_perm hP).2 hb), rfl⟩) rfl,
    ⟨rfl, rfl, rfl, Nat.le_refl _, fun _ _ _ => rfl⟩⟩ hs (fun i hi => (hv i hi).mono fun b hb => ⟨.inl hb, rfl⟩)
  refine this.mono ?_
  rintro e w' ⟨v, r, F', he, hpost, hw', hr⟩
  obtain ⟨c1, c2, c3⟩ := call_frame hIp hI hw1 hw'
  obtain ⟨H', D, d1, d2⟩ := hq r F' hpost c1.nodup
  have c4 := (c1.perm d1).drop
  exact ⟨v, r, H', he, d2, c4.1, hr.mono fun b hb => ⟨c4.2 b ((imm_perm d1).1 (c3 b hb)), rfl⟩⟩
/-- A call of a chain that changes blocks of the chain's own, exactly. -/
theorem WCt.updM {P : Program} {f : FuncId} {args : List AV} {E F F0 R H0 : Hp} {post : AV → Hp → Prop} {x : AV} (h : ACt P f args F (fun r F' => r = x ∧ F' = F0)) (hP : E.Perm (F ++ R)) (hp : post x (F0 ++ R)) : WCt P f args E H0 post :=
  ⟨F, R, _, hP, h, fun r F' hr _ => by obtain ⟨e1, e2⟩ := hr; subst e1 e2; exact hp⟩
/-- A row of ours, given up for good: the callee sees it as one that nobody writes; beside it blocks that are lent. -/
theorem ACt.frzG {P : Program} {f : FuncId} {args args' : List AV} {b : Nat} {k : IntKind} {zs : List Int} {s0 ty : Nat} {F : Hp} {p : AV → Hp → Prop} (h : ACt P f args' F p) (he : args.map (Proofs.YtjdjpgjjnajjhaaDoor.frz b k zs) = args') :
    ACt P f args ((b, .zs k zs s0 ty) :: F) p := by
  intro cx vs hK hw hs hv
  subst he
  have hbl := keys_lt hw _ (List.mem_cons_self ..)
  have hnd := hw.nodup
  simp only [List.map_cons, List.nodup_cons] at hnd
  have himm : ∀ c, imm cx cx.w0 ((b, .zs k zs s0 ty) :: F) c → cx.I c := by
    rintro c (hc | ⟨h1, h2, h3⟩)
    · exact hc
    · rcases h1 with h1 | h1
      · rw [hK] at h1
        obtain ⟨x, hx, he⟩ := List.mem_map.1 h1
        exact absurd he (h3 x hx)
      · omega
  have hI : ∀ c, (cx.I c ∨ c = b) → c < cx.w0.heap.size ∧ c ∉ F.map (·.1) := by
    rintro c (hc | rfl)
    · refine ⟨(cx.hI c hc).1, fun hm => (cx.hI c hc).2 ?_⟩
      rw [hK]; exact List.mem_cons_of_mem _ hm
    · exact ⟨hbl, hnd.1⟩
  have := h ⟨cx.w0, fun c => cx.I c ∨ c = b, F.map (·.1), hI⟩ vs rfl
    ⟨hnd.2, fun x hx => .inl (List.mem_map_of_mem hx), fun x hx => (hw.mem x (List.mem_cons_of_mem _ hx)).mono (fun c hc => ⟨.inl (.inl (himm c hc)), rfl⟩) rfl, ⟨rfl, rfl, rfl, Nat.le_refl _, fun _ _ _ => rfl⟩⟩
    (by simpa using hs) (fun i hi => by
      have hi' : i < args.length := by simpa using hi
      have := rep_frz (hw.mem _ (List.mem_cons_self ..)) (I := fun c => cx.I c ∨ c = b) (.inr rfl) ((hv i hi').mono fun c hc => ⟨.inl hc, rfl⟩)
      simpa [List.getD, List.getElem?_map, hi'] using this)
  refine this.mono ?_
  rintro e w' ⟨v, r, F', he, hp, hw', hr⟩
  have e1 := hw.ext
  have e2 := hw'.ext
  have hsz : cx.w0.heap.size ≤ w'.heap.size := e2.size
  have hkey : ∀ x ∈ F', x.1 ∈ cx.K ∨ cx.w0.heap.size ≤ x.1 := fun x hx => by
    rcases hw'.keys x hx with h | h
    · exact .inl (by rw [hK]; exact List.mem_cons_of_mem _ h)
    · exact .inr h
  have hbF : ∀ x ∈ F', x.1 ≠ b := fun x hx he => by
    rcases hw'.keys x hx with h | h
    · exact hnd.1 (he ▸ h)
    · simp only at h; omega
  have hIm : ∀ c, imm ⟨cx.w0, fun c => cx.I c ∨ c = b, F.map (·.1), hI⟩ w' F' c → imm cx w' F' c := by
    rintro c ((hc | rfl) | ⟨h1, h2, h3⟩)
    · exact .inl hc
    · exact .inr ⟨.inl (by rw [hK]; exact List.mem_cons_self ..), by omega, hbF⟩
    · refine .inr ⟨?_, h2, h3⟩
      rcases h1 with h1 | h1
      · exact .inl (by rw [hK]; exact List.mem_cons_of_mem _ h1)
      · exact .inr h1
  refine ⟨v, r, F', he, hp, ⟨hw'.nodup, hkey, fun x hx => (hw'.mem x hx).mono (fun c hc => ⟨hIm c hc, rfl⟩) rfl, ?_⟩, hr.mono fun c hc => ⟨hIm c hc, rfl⟩⟩
  exact ⟨e2.os.trans e1.os, e2.tape.trans e1.tape, e2.output.trans e1.output, Nat.le_trans e1.size e2.size, fun c hc hk => (e2.blk c hc (fun hm => hk (by rw [hK]; exact List.mem_cons_of_mem _ hm))).trans (e1.blk c hc hk)⟩
theorem CallV.frzE {P : Program} {f : FuncId} {args args' : List AV} {H F R : Hp} {post : AV → Hp → Prop} {Γ : Type} {x : Γ → AV} {m : Γ → Hp} (b : Nat) {k : IntKind} {zs : List Int} {s0 ty : Nat} (hg : hget H b = some (.zs k zs s0 ty))
    (h : ACt P f args' F (fun r F' => ∃ g, r = x g ∧ F' = m g)) (he : args.map (Proofs.YtjdjpgjjnajjhaaDoor.frz b k zs) = args') (hP : (hdel H b).Perm (F ++ R)) (hp : ∀ g, post (x g) (m g ++ R)) : CallV P f args H post :=
  ⟨(b, .zs k zs s0 ty) :: F, R, _, (hget_perm hg).trans (List.Perm.cons _ hP), h.frzG he, fun r F' hr _ => by obtain ⟨g, e1, e2⟩ := hr; subst e1 e2; exact hp g⟩
/-- A region that draws: a head of k operations that only compute, and a tail in the text's order, which may call. -/
theorem WP.drawKk {P : Program} {cx : Cx} {n : Nat} {id : Nat} (k : Nat) {l : List Oper} {Q : Exit → St → Prop} {s : St} (hm : P.follows .mixedOrders = true) (hB : drawB l.toArray k = true)
    (h : dvc P n l.toArray (l.take k) (rvc P n l.toArray (l.drop k) (Q .normal)) s) : WP P cx n (.region id l.toArray true) Q s :=
  WP.draw hm hB (dvc_mono _ _ _ _ _ (fun s hs => rvc_sound _ s hs) h)
section
variable {P : Program} {cx : Cx} {n : Nat} {ops : Array Oper} {H : Hp}
/-- A call of a chain that may leave things in one of many ways. -/
theorem WCt.exM {f : FuncId} {args : List AV} {E F R H0 : Hp} {post : AV → Hp → Prop} {Γ : Type} {x : Γ → AV} {m : Γ → Hp} (h : ACt P f args F (fun r F' => ∃ g, r = x g ∧ F' = m g)) (hP : E.Perm (F ++ R)) (hp : ∀ g, post (x g) (m g ++ R)) : WCt P f args E H0 post :=
  ⟨F, R, _, hP, h, fun r F' hr _ => by obtain ⟨g, e1, e2⟩ := hr; subst e1 e2; exact hp g⟩
end
end Go.Proofs.YtjdjpgjjnajjhaaDoor
namespace Go.Proofs.YtjdjpgjjnajjhaaDoor
open Go
set_option linter.unusedSimpArgs false
set_option linter.unusedVariables false
/-- A listed table of integers, as the walk's memory holds it. -/
def TabOk (w : World) (x : Nat × MB) : Prop := ∃ (k : IntKind) (zs : List Int) (ty : TypeId) (cur : Array Value), x.2 = .zs k zs zs.length ty ∧ w.heap[x.1]? = some (.cells cur ty (0, 0)) ∧ cur.toList = zs.map (Value.int k)
theorem TabOk.mok {w : World} {I : Nat → Prop} {x : Nat × MB} (h : TabOk w x) : MOk w I x.1 x.2 := by
  obtain ⟨k, zs, ty, cur, e1, e2, e3⟩ := h
  rw [e1]
  have hs : cur.size = zs.length := by have := congrArg List.length e3; simpa using this
  refine ⟨cur, e2, hs, Nat.le_refl _, fun i hi => ?_⟩
  rw [← Array.getElem?_toList, e3]
  simp [List.getD, hi]
theorem TabOk.same {w w' : World} {I : Nat → Prop} {x : Nat × MB} (h : TabOk w x) (h' : MOk w' I x.1 x.2) : w'.heap[x.1]? = w.heap[x.1]? := by
  obtain ⟨k, zs, ty, cur, e1, e2, e3⟩ := h
  rw [e1] at h'
  obtain ⟨cur', c1, c2, c3, c4⟩ := h'
  have hs : cur.size = zs.length := by have := congrArg List.length e3; simpa using this
  rw [e2, c1]
  have : cur' = cur := by
    apply Array.ext' 
    apply List.ext_getElem?
    intro i
    by_cases hi : i < zs.length
    · rw [Array.getElem?_toList, c4 i hi, e3]; simp [List.getD, hi]
    · rw [List.getElem?_eq_none (by simp; omega), List.getElem?_eq_none (by simp; omega)]
  rw [this]
/-- The law's call, with listed tables, where the arguments hold no memory. -/
theorem ACt.lawG {P : Program} {f : FuncId} {args : List AV} {G : Hp} (h : ACt P f args G fun r F' => r = bv true ∧ F' = G) (hb : ((P.funcs[f]?).any fun fn => fn.body.isSome && !(fn.name == "runtime.NumGoroutine")) = true) {w : World} {vs : Array Value} (hs : vs.size = args.length)
    (hv : ∀ i, i < args.length → Rep w (fun b => b < w.heap.size) (vs.getD i undef) (args.getD i .any)) (hc : args.all clA = true) (hn : (G.map (·.1)).Nodup) (hG : ∀ x ∈ G, TabOk w x) :
    Calls P f vs w fun e w' => e = .returned (.bool true) ∧ Go.RowKit.Below w.heap.size w w' := by
  have := h ⟨w, fun _ => False, G.map (·.1), fun b hb => hb.elim⟩ vs rfl ⟨hn, fun x hx => .inl (List.mem_map_of_mem hx), fun x hx => (hG x hx).mok, ⟨rfl, rfl, rfl, Nat.le_refl _, fun _ _ _ => rfl⟩⟩ hs
    (fun i hi => (hv i hi).closed (by
      have := List.all_eq_true.1 hc _ (List.getElem_mem hi)
      simpa [List.getD, hi] using this))
  obtain ⟨fn, hf, hb⟩ : ∃ fn, P.funcs[f]? = some fn ∧ (fn.body.isSome && !(fn.name == "runtime.NumGoroutine")) = true := by
    cases e : P.funcs[f]? with
    | none => rw [e] at hb; cases hb
    | some fn => exact ⟨fn, rfl, by rw [e] at hb; exact hb⟩
  have hcl : (callFunc f vs).run P w = .ok (.enter f vs) w := by
    simp at hb
    obtain ⟨h1, h2⟩ := hb
    obtain ⟨c, hc⟩ := Option.isSome_iff_exists.1 h1
    simp [callFunc, program, Sem.run, hf, hc, h2]
  rcases Or.symm this with ⟨v, w', h1, _⟩ | ⟨_, this⟩
  · exact absurd (h1.symm.trans hcl) (by simp)
  refine this.mono ?_
  rintro e w' ⟨v, r, F', rfl, ⟨rfl, rfl⟩, hw, hr⟩
  rw [hr.lit_inv]
  refine ⟨rfl, ⟨hw.ext.os, hw.ext.tape, hw.ext.output, hw.ext.size, fun k hk => ?_⟩⟩
  by_cases hm : k ∈ F'.map (·.1)
  · obtain ⟨x, hx, rfl⟩ := List.mem_map.1 hm
    exact (hG x hx).same (hw.mem x hx)
  · exact hw.ext.blk k hk hm
/-- What a listed array of integers holds. -/
theorem row_of_trod {H : Type} {enc : TypeId × Value → H} {P : Program} {w : World} {base fuel : Nat} {sp : Nat → Bool} {held : Bool} {t e : TypeId} {m : Nat} {k : IntKind} {cs : List Value} {zs : List Int} {p : List MemPlace}
    (ht : P.underlying t = some (.array m e)) (he : P.underlying e = some (.int k)) (hc : P.cellsOf e = 1)
    (h : DataW.trod enc P w base sp held fuel t cs = some (.agg (zs.map fun z => .lit (.int k z)), p)) (hl : cs.length = m) : cs = zs.map (Value.int k) := by
  obtain ⟨xs, n, rfl, hx, hlen, hxl, hel⟩ := DataW.trod_array ht h
  simp only [Prod.mk.injEq, DataW.agg.injEq] at hx
  have hzl : zs.length = m := by have := congrArg List.length hx.1; simpa [hxl] using this
  refine List.ext_getElem (by simp [hl, hzl]) fun i h1 h2 => ?_
  have hi : i < m := by omega
  have hh := hel i hi
  rw [hc, Nat.mul_one, List.getElem?_eq_getElem (by omega)] at hh
  have e1 : (cs.drop i).take 1 = [cs[i]] := by
    rw [List.drop_eq_getElem_cons h1]; rfl
  rw [e1] at hh
  obtain ⟨z, a1, a2, _⟩ := DataW.trod_int he hh
  have e2 : cs[i] = .int k z := by simpa using a1
  have e3 : (xs[i]'(by omega)).1 = .lit (.int k z) := by rw [a2]
  have e4 : (xs.map (·.1))[i]'(by simpa using (by omega : i < xs.length)) = (zs.map fun z => (DataW.lit (.int k z) : DataW H))[i]'(by simp; omega) := by simp only [hx.1]
  simp only [List.getElem_map] at e4
  rw [e3] at e4
  have e5 : z = zs[i]'(by omega) := by injection e4 with e4; injection e4
  rw [e2, e5]
  simp
end Go.Proofs.YtjdjpgjjnajjhaaDoor
namespace Go.Proofs.YtjdjpgjjnajjhaaDoor
open Go
set_option linter.unusedVariables false
set_option linter.unusedSimpArgs false
abbrev stz (zs : List Int) : AV := .lit (.string (bstr zs))
theorem bstr_size (zs : List Int) : (bstr zs).size = zs.length := by simp [bstr, ByteArray.size]
def By (zs : List Int) : Prop := ∀ i, i < zs.length → 0 ≤ zs.getD i 0 ∧ zs.getD i 0 ≤ 255
theorem bstr_get {zs : List Int} (hb : By zs) {i : Nat} (h : i < zs.length) : (((bstr zs).get! i).toNat : Int) = zs.getD i 0 := by
  have hb := hb i h
  have e : (bstr zs).get! i = UInt8.ofNat (zs.getD i 0).toNat := by
    unfold bstr
    show (Array.mk _)[i]! = _
    rw [getElem!_pos _ _ (by simpa using h)]
    simp [List.getD_eq_getElem?_getD, List.getElem?_eq_getElem h]
  rw [e]
  have : (UInt8.ofNat (zs.getD i 0).toNat).toNat = (zs.getD i 0).toNat := by rw [UInt8.toNat_ofNat']; exact Nat.mod_eq_of_lt (by omega)
  rw [this]
  omega
theorem dec_lo {zs : List Int} (hb : By zs) {i : Nat} (h : i < zs.length) (hl : zs.getD i 0 < 128) : Utf8.decode (bstr zs) i = ((zs.getD i 0).toNat, 1) := by
  have hg := bstr_get hb h
  unfold Utf8.decode
  simp only [Nat.add_zero]
  rw [if_pos (by omega)]
  congr 1
  omega
theorem bstr_app (xs ys : List Int) : bstr xs ++ bstr ys = bstr (xs ++ ys) := by
  apply ByteArray.ext
  simp [bstr, ByteArray.data_append]
theorem bstr_at {zs : List Int} (hb : By zs) {i : Nat} (h : i < zs.length) : (((bstr zs).data.toList.getD i 0).toNat : Int) = zs.getD i 0 := by
  have hb := hb i h
  unfold bstr
  simp only [List.getD_eq_getElem?_getD, List.getElem?_map, List.getElem?_eq_getElem h, Option.map_some, Option.getD_some]
  rw [List.getD_eq_getElem?_getD, List.getElem?_eq_getElem h, Option.getD_some] at hb
  rw [UInt8.toNat_ofNat', Nat.mod_eq_of_lt (by omega)]
  omega
theorem bstr_ext (zs : List Int) (lo hi : Nat) : (bstr zs).extract lo hi = bstr ((zs.take hi).drop lo) := by
  apply ByteArray.ext
  rw [ByteArray.data_extract]
  apply Array.ext'
  simp [bstr, List.map_take, List.map_drop, List.drop_take]
theorem str_eq (xs ys : List Int) (hx : By xs) (hy : By ys) : ((bstr xs).toList == (bstr ys).toList) = decide (xs = ys) := by
  have h1 : ((bstr xs).toList == (bstr ys).toList) = (bstr xs == bstr ys) := by first | rw [beq_toListBytes] | rw [← beq_toListBytes]
  rw [h1]
  by_cases h : xs = ys
  · subst h; rw [decide_eq_true rfl]
    show ((bstr xs).data == (bstr xs).data) = true
    exact beq_self_eq_true _
  · rw [decide_eq_false h]
    have : ¬ (bstr xs == bstr ys) = true := fun hb => h (by
      have hb : (bstr xs).data == (bstr ys).data := hb
      have hb := eq_of_beq hb
      have hl : xs.length = ys.length := by have := congrArg Array.size hb; simpa [bstr] using this
      refine List.ext_getElem hl fun i h1 h2 => ?_
      have a := bstr_get hx h1
      have b := bstr_get hy h2
      have e : bstr xs = bstr ys := ByteArray.ext hb
      rw [e] at a
      rw [a] at b
      simpa [List.getD_eq_getElem?_getD, List.getElem?_eq_getElem h1, List.getElem?_eq_getElem h2] using b)
    simpa using this
theorem By.drop {zs : List Int} (h : By zs) (k : Nat) : By (zs.drop k) := fun i hi => by
  rw [List.length_drop] at hi
  have := h (k + i) (by omega)
  simpa [List.getD_eq_getElem?_getD, List.getElem?_drop] using this
end Go.Proofs.YtjdjpgjjnajjhaaDoor
