/-
  The walks and the laws that the statement leans on, part 8.
-/
import Derived.Test.YtdkkfgcdnojmaaaDoorS7
namespace Go.Proofs.YtdkkfgcdnojmaaaDoor
open Go
set_option linter.unusedSimpArgs false
structure Sm (p : Prop) : Prop where
  out : p
theorem maxLen_eq : maxLen = 9223372036854775807 := rfl
theorem World.cell?_lt {w : World} {a : Addr} {v : Value} (h : w.cell? a = some v) : a.block < w.heap.size ∧ a.spot = none := by
  unfold World.cell? at h
  split at h
  · rename_i hb
    refine ⟨(Array.getElem?_eq_some_iff.1 hb).1, ?_⟩
    split at h
    · cases h
    · rename_i hs; cases hx : a.spot with
      | none => rfl
      | some _ => simp [hx] at hs
  · cases h
theorem Rep.row {k : IntKind} {w : World} {a : Option Addr} {len cap : Nat} {zs : List Int}
    (h : (a = none ∧ len = 0 ∧ cap = 0 ∧ zs = []) ∨
      ∃ x, a = some x ∧ len ≤ cap ∧ cap ≤ maxLen ∧ zs.length = cap ∧ (∀ i, i < zs.length → w.cell? (x.add i) = some (.int k (zs.getD i 0))) ∧ ∀ n ∈ zs, (Lit.int k n).wf = true) :
    Rep w (fun b => b < w.heap.size) (.slice a len cap) (.slz k (zs.take len)) := by
  rcases h with ⟨rfl, rfl, rfl, rfl⟩ | ⟨⟨blk, off, sp⟩, rfl, hl, hm, hz, hc, _⟩
  · exact Rep.slz none k [] 0 (by simp) (by simp) (.inl rfl)
  · have e : (zs.take len).length = len := by simp; omega
    have : Rep w (fun b => b < w.heap.size) (.slice (some ⟨blk, off, sp⟩) (zs.take len).length cap) (.slz k (zs.take len)) := by
      refine Rep.slz _ k _ cap (by omega) hm ?_
      by_cases h0 : len = 0
      · exact .inl (by rw [e]; exact h0)
      · have h1 := World.cell?_lt (hc 0 (by omega))
        simp only [Addr.add, if_pos] at h1
        obtain ⟨h2, rfl⟩ := h1
        refine .inr ⟨blk, off, rfl, h2, fun i hi => ?_⟩
        rw [e] at hi
        have := hc i (by omega)
        have ea : (⟨blk, off, none⟩ : Addr).add i = ⟨blk, off + i, none⟩ := by
          unfold Addr.add
          split
          · subst i; rfl
          · rfl
        rw [ea] at this
        rw [this]
        simp [List.getD, List.getElem?_take, hi]
    rw [e] at this
    exact this
def ub (bs : List UInt8) : List Int := bs.map fun b => (b.toNat : Int)
theorem ub_getD (bs : List UInt8) (i : Nat) : (ub bs).getD i 0 = ((bs.getD i 0).toNat : Int) := by
  unfold ub
  simp only [List.getD, List.getElem?_map]
  cases bs[i]? <;> rfl
structure Ob (p : Prop) : Prop where
  out : p
theorem ExG.no {P : Program} {f : FuncId} {args : List AV} {H : Hp} {K : AV → Prop} (hk : K .any) : ExG false P f args H K := ExG.mk (x := .any) (fun hg => absurd hg (by decide)) hk
theorem ExG.mkJ {c : Bool} {P : Program} {f : FuncId} {args : List AV} {H : Hp} {K : AV → Prop} {x : AV} {r : Prop} (h : c = true → ACt P f args [] (Fn x)) (hk : K x) : ExG c P f args H K ∨ r := .inl (ExG.mk h hk)
theorem ExG.mkI {c : Bool} {P : Program} {f : FuncId} {args : List AV} {H : Hp} {K : AV → Prop} {x : AV} {r ob : Prop} (ho : ob) (h : c = true → ACt P f args [] (Fn x)) (hk : K x) : (ob ∧ ExG c P f args H K) ∨ r := .inl ⟨ho, ExG.mk h hk⟩
theorem ZK : (((((((type_of% @maxLen_eq) ∧ ((type_of% @List.length_append.{0}) ∧ (type_of% @Nat.min_def))) ∧ ((type_of% @repA_one) ∧ ((type_of% @fresh_nil) ∧ (type_of% @fresh_cons)))) ∧ (((type_of% @freshBut_nil) ∧ ((type_of% @freshBut_cons) ∧ (type_of% @intsA_map))) ∧ ((type_of% @ne_eq.{1}) ∧ ((type_of% @true_implies) ∧ (type_of% @forall_const.{1}))))) ∧ ((((type_of% @List.length_map.{0,0}) ∧ ((type_of% @List.map_append.{0,0}) ∧ (type_of% @drop_getD0))) ∧ ((type_of% @Int.toNat_natCast) ∧ ((type_of% @List.length_drop.{0}) ∧ (type_of% @List.length_take.{0})))) ∧ (((type_of% @Int.cast_ofNat_Int) ∧ ((type_of% @List.size_toArray.{0}) ∧ (type_of% @List.length_cons.{0}))) ∧ (((type_of% @List.length_nil.{0}) ∧ (type_of% @List.getElem?_toArray.{0})) ∧ ((type_of% @List.getElem?_cons_zero.{0}) ∧ (type_of% @List.getElem?_cons_succ.{0})))))) ∧ (((((type_of% @Option.bind_some.{0,0}) ∧ ((type_of% @Option.map_some.{0,0}) ∧ (type_of% @Option.map_none.{0,0}))) ∧ ((type_of% @Option.isSome_some.{0}) ∧ ((type_of% @if_true.{1}) ∧ (type_of% @if_false.{1})))) ∧ (((type_of% @true_and) ∧ ((type_of% @and_true) ∧ (type_of% @ite_true.{1}))) ∧ (((type_of% @ite_false.{1}) ∧ (type_of% @Bool.true_and)) ∧ ((type_of% @Bool.and_true) ∧ (type_of% @Bool.not_true))))) ∧ ((((type_of% @Bool.not_false) ∧ ((type_of% @Bool.or_false) ∧ (type_of% @Bool.false_or))) ∧ ((type_of% @Bool.true_or) ∧ ((type_of% @Bool.or_true) ∧ (type_of% @Bool.false_and)))) ∧ (((type_of% @Bool.and_false) ∧ ((type_of% @List.map_cons.{0,0}) ∧ (type_of% @List.map_nil.{0,0}))) ∧ (((type_of% @List.mem_cons.{0}) ∧ (type_of% @List.not_mem_nil.{0})) ∧ ((type_of% @or_false) ∧ (type_of% @false_or))))))) ∧ ((((((type_of% @true_or) ∧ ((type_of% @or_true) ∧ (type_of% @forall_eq_or_imp.{1}))) ∧ ((type_of% @forall_eq.{1}) ∧ ((type_of% @List.all_cons.{0}) ∧ (type_of% @List.all_nil.{0})))) ∧ (((type_of% @List.append_nil.{0}) ∧ ((type_of% @List.nil_append.{0}) ∧ (type_of% @List.cons_append.{0}))) ∧ (((type_of% @List.getD_cons_zero.{0}) ∧ (type_of% @List.getD_cons_succ.{0})) ∧ ((type_of% @List.take_succ_cons.{0}) ∧ (type_of% @List.take_zero.{0}))))) ∧ ((((type_of% @List.drop_succ_cons.{0}) ∧ ((type_of% @List.drop_zero.{0}) ∧ (type_of% @List.set_cons_zero.{0}))) ∧ ((type_of% @List.set_cons_succ.{0}) ∧ ((type_of% @List.replicate_succ.{0}) ∧ (type_of% @List.replicate_zero.{0})))) ∧ (((type_of% @Nat.add_zero) ∧ ((type_of% @Nat.zero_add) ∧ (type_of% @Nat.mul_one))) ∧ (((type_of% @Nat.one_mul) ∧ (type_of% @Int.toNat_zero)) ∧ ((type_of% @Nat.le_refl) ∧ (type_of% @Int.le_refl)))))) ∧ (((((type_of% @Option.some.injEq.{0}) ∧ ((type_of% @Go.TypeDesc.slice.injEq) ∧ (type_of% @Go.TypeDesc.int.injEq))) ∧ ((type_of% @List.length_replicate.{0}) ∧ ((type_of% @Go.TypeDesc.pointer.injEq) ∧ (type_of% @exists_eq.{1})))) ∧ (((type_of% @exists_eq_left.{1}) ∧ ((type_of% @exists_eq_left'.{1}) ∧ (type_of% @exists_eq'.{1}))) ∧ (((type_of% @implies_true.{1}) ∧ (type_of% @beq_true)) ∧ ((type_of% @beq_false) ∧ (type_of% @and_self))))) ∧ ((((type_of% @beq_self_eq_true.{0}) ∧ ((type_of% @bne_self_eq_false.{0}) ∧ (type_of% @decide_true))) ∧ ((type_of% @decide_false) ∧ ((type_of% @cond_true.{1}) ∧ (type_of% @cond_false.{1})))) ∧ (((type_of% @Bool.not_eq_true') ∧ ((type_of% @Bool.not_eq_false') ∧ (type_of% @imp_self))) ∧ (((type_of% @Bool.cond_false_right) ∧ (type_of% @Bool.cond_true_right)) ∧ ((type_of% @Bool.cond_true_left) ∧ (type_of% @Bool.cond_false_left)))))))) :=
  ⟨⟨⟨⟨⟨⟨@maxLen_eq, ⟨@List.length_append.{0}, @Nat.min_def⟩⟩, ⟨@repA_one, ⟨@fresh_nil, @fresh_cons⟩⟩⟩, ⟨⟨@freshBut_nil, ⟨@freshBut_cons, @intsA_map⟩⟩, ⟨@ne_eq.{1}, ⟨@true_implies, @forall_const.{1}⟩⟩⟩⟩, ⟨⟨⟨@List.length_map.{0,0}, ⟨@List.map_append.{0,0}, @drop_getD0⟩⟩, ⟨@Int.toNat_natCast, ⟨@List.length_drop.{0}, @List.length_take.{0}⟩⟩⟩, ⟨⟨@Int.cast_ofNat_Int, ⟨@List.size_toArray.{0}, @List.length_cons.{0}⟩⟩, ⟨⟨@List.length_nil.{0}, @List.getElem?_toArray.{0}⟩, ⟨@List.getElem?_cons_zero.{0}, @List.getElem?_cons_succ.{0}⟩⟩⟩⟩⟩, ⟨⟨⟨⟨@Option.bind_some.{0,0}, ⟨@Option.map_some.{0,0}, @Option.map_none.{0,0}⟩⟩, ⟨@Option.isSome_some.{0}, ⟨@if_true.{1}, @if_false.{1}⟩⟩⟩, ⟨⟨@true_and, ⟨@and_true, @ite_true.{1}⟩⟩, ⟨⟨@ite_false.{1}, @Bool.true_and⟩, ⟨@Bool.and_true, @Bool.not_true⟩⟩⟩⟩, ⟨⟨⟨@Bool.not_false, ⟨@Bool.or_false, @Bool.false_or⟩⟩, ⟨@Bool.true_or, ⟨@Bool.or_true, @Bool.false_and⟩⟩⟩, ⟨⟨@Bool.and_false, ⟨@List.map_cons.{0,0}, @List.map_nil.{0,0}⟩⟩, ⟨⟨@List.mem_cons.{0}, @List.not_mem_nil.{0}⟩, ⟨@or_false, @false_or⟩⟩⟩⟩⟩⟩, ⟨⟨⟨⟨⟨@true_or, ⟨@or_true, @forall_eq_or_imp.{1}⟩⟩, ⟨@forall_eq.{1}, ⟨@List.all_cons.{0}, @List.all_nil.{0}⟩⟩⟩, ⟨⟨@List.append_nil.{0}, ⟨@List.nil_append.{0}, @List.cons_append.{0}⟩⟩, ⟨⟨@List.getD_cons_zero.{0}, @List.getD_cons_succ.{0}⟩, ⟨@List.take_succ_cons.{0}, @List.take_zero.{0}⟩⟩⟩⟩, ⟨⟨⟨@List.drop_succ_cons.{0}, ⟨@List.drop_zero.{0}, @List.set_cons_zero.{0}⟩⟩, ⟨@List.set_cons_succ.{0}, ⟨@List.replicate_succ.{0}, @List.replicate_zero.{0}⟩⟩⟩, ⟨⟨@Nat.add_zero, ⟨@Nat.zero_add, @Nat.mul_one⟩⟩, ⟨⟨@Nat.one_mul, @Int.toNat_zero⟩, ⟨@Nat.le_refl, @Int.le_refl⟩⟩⟩⟩⟩, ⟨⟨⟨⟨@Option.some.injEq.{0}, ⟨@Go.TypeDesc.slice.injEq, @Go.TypeDesc.int.injEq⟩⟩, ⟨@List.length_replicate.{0}, ⟨@Go.TypeDesc.pointer.injEq, @exists_eq.{1}⟩⟩⟩, ⟨⟨@exists_eq_left.{1}, ⟨@exists_eq_left'.{1}, @exists_eq'.{1}⟩⟩, ⟨⟨@implies_true.{1}, @beq_true⟩, ⟨@beq_false, @and_self⟩⟩⟩⟩, ⟨⟨⟨@beq_self_eq_true.{0}, ⟨@bne_self_eq_false.{0}, @decide_true⟩⟩, ⟨@decide_false, ⟨@cond_true.{1}, @cond_false.{1}⟩⟩⟩, ⟨⟨@Bool.not_eq_true', ⟨@Bool.not_eq_false', @imp_self⟩⟩, ⟨⟨@Bool.cond_false_right, @Bool.cond_true_right⟩, ⟨@Bool.cond_true_left, @Bool.cond_false_left⟩⟩⟩⟩⟩⟩⟩
theorem ZC : (((((type_of% @decide_eq_true_eq) ∧ (type_of% @decide_eq_false_iff_not)) ∧ ((type_of% @Bool.and_eq_true) ∧ ((type_of% @Bool.or_eq_true) ∧ (type_of% @Bool.and_eq_false_iff)))) ∧ (((type_of% @Bool.or_eq_false_iff) ∧ (type_of% @Bool.not_eq_true')) ∧ ((type_of% @Bool.not_eq_false') ∧ ((type_of% @Int.not_lt) ∧ (type_of% @Int.not_le))))) ∧ ((((type_of% @false_and) ∧ (type_of% @and_false)) ∧ ((type_of% @false_or) ∧ ((type_of% @or_false) ∧ (type_of% @true_and)))) ∧ (((type_of% @and_true) ∧ (type_of% @true_or)) ∧ ((type_of% @or_true) ∧ ((type_of% @not_true_eq_false) ∧ (type_of% @not_false_eq_true)))))) :=
  ⟨⟨⟨⟨@decide_eq_true_eq, @decide_eq_false_iff_not⟩, ⟨@Bool.and_eq_true, ⟨@Bool.or_eq_true, @Bool.and_eq_false_iff⟩⟩⟩, ⟨⟨@Bool.or_eq_false_iff, @Bool.not_eq_true'⟩, ⟨@Bool.not_eq_false', ⟨@Int.not_lt, @Int.not_le⟩⟩⟩⟩, ⟨⟨⟨@false_and, @and_false⟩, ⟨@false_or, ⟨@or_false, @true_and⟩⟩⟩, ⟨⟨@and_true, @true_or⟩, ⟨@or_true, ⟨@not_true_eq_false, @not_false_eq_true⟩⟩⟩⟩⟩
theorem ZD : (((type_of% @beq_iff_eq.{0}) ∧ ((type_of% @beq_eq_false_iff_ne.{0}) ∧ (type_of% @bne_iff_ne.{0}))) ∧ ((type_of% @bne_eq_false_iff_eq.{0}) ∧ ((type_of% @ne_eq.{1}) ∧ (type_of% @Decidable.not_not)))) :=
  ⟨⟨@beq_iff_eq.{0}, ⟨@beq_eq_false_iff_ne.{0}, @bne_iff_ne.{0}⟩⟩, ⟨@bne_eq_false_iff_eq.{0}, ⟨@ne_eq.{1}, @Decidable.not_not⟩⟩⟩
theorem ZE : ((((type_of% @decide_eq_true_eq) ∧ ((type_of% @decide_eq_false_iff_not) ∧ (type_of% @Bool.and_eq_true))) ∧ ((type_of% @Bool.or_eq_true) ∧ ((type_of% @Bool.and_eq_false_iff) ∧ (type_of% @Bool.or_eq_false_iff)))) ∧ (((type_of% @bne_iff_ne.{0}) ∧ ((type_of% @bne_eq_false_iff_eq.{0}) ∧ (type_of% @Bool.not_eq_true'))) ∧ ((type_of% @Bool.not_eq_false') ∧ ((type_of% @Int.not_lt) ∧ (type_of% @Int.not_le))))) :=
  ⟨⟨⟨@decide_eq_true_eq, ⟨@decide_eq_false_iff_not, @Bool.and_eq_true⟩⟩, ⟨@Bool.or_eq_true, ⟨@Bool.and_eq_false_iff, @Bool.or_eq_false_iff⟩⟩⟩, ⟨⟨@bne_iff_ne.{0}, ⟨@bne_eq_false_iff_eq.{0}, @Bool.not_eq_true'⟩⟩, ⟨@Bool.not_eq_false', ⟨@Int.not_lt, @Int.not_le⟩⟩⟩⟩
theorem ZF : ((((type_of% @Bool.not_eq_true') ∧ ((type_of% @Bool.not_eq_false') ∧ (type_of% @Bool.not_false))) ∧ ((type_of% @Bool.not_true) ∧ ((type_of% @Bool.true_and) ∧ (type_of% @Bool.and_true)))) ∧ (((type_of% @Bool.false_and) ∧ ((type_of% @Bool.and_false) ∧ (type_of% @true_and))) ∧ (((type_of% @and_true) ∧ (type_of% @imp_self)) ∧ ((type_of% @implies_true.{1}) ∧ (type_of% @and_self))))) :=
  ⟨⟨⟨@Bool.not_eq_true', ⟨@Bool.not_eq_false', @Bool.not_false⟩⟩, ⟨@Bool.not_true, ⟨@Bool.true_and, @Bool.and_true⟩⟩⟩, ⟨⟨@Bool.false_and, ⟨@Bool.and_false, @true_and⟩⟩, ⟨⟨@and_true, @imp_self⟩, ⟨@implies_true.{1}, @and_self⟩⟩⟩⟩
set_option linter.unusedVariables false
def clA : AV → Bool
  | .lit _ => true
  | .any => true
  | .agg cs => clL cs
  | .tup cs => clL cs
  | .ifc _ x => clA x
  | _ => false
where clL : List AV → Bool
  | [] => true
  | x :: r => clA x && clL r
theorem clL_get : ∀ {cs : List AV} (i : Nat) (hi : i < cs.length), clA.clL cs = true → clA cs[i] = true
  | x :: r, 0, _, h => by simp only [clA.clL, Bool.and_eq_true] at h; exact h.1
  | x :: r, i + 1, hi, h => by
    simp only [clA.clL, Bool.and_eq_true] at h
    exact clL_get (cs := r) i (by simpa using hi) h.2
theorem Rep.closed {w w' : World} {I I' : Nat → Prop} {v : Value} {x : AV} (h : Rep w I v x) : clA x = true → Rep w' I' v x := by
  induction h with
  | any v => exact fun _ => .any v
  | lit v => exact fun _ => .lit v
  | sl a n cap cs g hn hm h _ ih => intro hc; simp [clA] at hc
  | slz a k zs cap hn hm h => intro hc; simp [clA] at hc
  | ip ad cs g h _ ih => intro hc; simp [clA] at hc
  | ipz ad k zs h => intro hc; simp [clA] at hc
  | agg vs cs hs _ ih => exact fun hc => .agg vs cs hs fun i hi => ih i hi (clL_get i hi (by simpa [clA] using hc))
  | tup vs cs hs _ ih => exact fun hc => .tup vs cs hs fun i hi => ih i hi (clL_get i hi (by simpa [clA] using hc))
  | ifc t v x _ ih => exact fun hc => .ifc t v x (ih (by simpa [clA] using hc))
  | gdt v x _ ih => intro hc; simp [clA] at hc
  | gdf x => intro hc; simp [clA] at hc
theorem hget_perm {b : Nat} {m : MB} : ∀ {H : Hp}, hget H b = some m → H.Perm ([(b, m)] ++ hdel H b)
  | [], h => by cases h
  | (b0, m0) :: r, h => by
    simp only [hget, hdel] at h ⊢
    split at h
    · rename_i he; subst he; cases h; simp
    · rename_i he
      rw [if_neg he]
      have := hget_perm (H := r) h
      exact (List.Perm.cons _ this).trans (List.Perm.swap ..)
/-! ## Views -/
inductive Vw (H : Hp) : AV → AV → Prop
  | same (x : AV) : Vw H x x
  | row {b off n cap sz ty : Nat} {k : IntKind} {zs : List Int} (hg : hget H b = some (.zs k zs sz ty)) (h1 : off + n ≤ zs.length) (h2 : n ≤ cap) (h3 : cap ≤ maxLen) :
      Vw H (ms b off n cap) (.slz k ((zs.drop off).take n))
  | rowc {b off n cap sz ty : Nat} {cs ds : List AV} (hg : hget H b = some (.cells cs sz ty)) (h1 : off + ds.length ≤ cs.length) (h2 : n ≤ cap) (h3 : cap ≤ maxLen)
      (h : ∀ i (hi : i < ds.length), Vw H (cs.getD (off + i) .any) ds[i]) : Vw H (ms b off n cap) (.sl n ds)
  | ptc {b off sz ty : Nat} {cs ds : List AV} (hg : hget H b = some (.cells cs sz ty)) (h1 : off + ds.length ≤ cs.length)
      (h : ∀ i (hi : i < ds.length), Vw H (cs.getD (off + i) .any) ds[i]) : Vw H (pt b off) (.ip ds)
  | ptz {b off sz ty : Nat} {k : IntKind} {zs : List Int} (hg : hget H b = some (.zs k zs sz ty)) (h1 : off ≤ zs.length) : Vw H (pt b off) (.ipz k (zs.drop off))
  | agg {cs ds : List AV} (hl : ds.length = cs.length) (h : ∀ i (hi : i < ds.length), Vw H (cs.getD i .any) ds[i]) : Vw H (.agg cs) (.agg ds)
  | tup {cs ds : List AV} (hl : ds.length = cs.length) (h : ∀ i (hi : i < ds.length), Vw H (cs.getD i .any) ds[i]) : Vw H (.tup cs) (.tup ds)
  | ifc {t : TypeId} {x y : AV} (h : Vw H x y) : Vw H (.ifc t x) (.ifc t y)
  | nils : Vw H (.lit (.slice none 0 0)) (.sl 0 [])
theorem Vw.rep {cx : Cx} {H : Hp} {w : World} {I' : Nat → Prop} (hw : OkW cx H w) (hlt : ∀ b, imm cx w H b → I' b) (hk : ∀ x ∈ H, I' x.1) {x y : AV} (h : Vw H x y) : ∀ {v : Value}, Rep w (imm cx w H) v x → Rep w I' v y := by
  induction h with
  | same x => exact fun hv => hv.mono fun b hb => ⟨hlt b hb, rfl⟩
  | @row b off n cap sz ty k zs hg h1 h2 h3 =>
    intro v hv
    have := hv.lit_inv; subst this
    obtain ⟨cur, c1, c2, c3, c4⟩ := hw.mem _ (hget_mem hg)
    have e : ((zs.drop off).take n).length = n := by simp; omega
    have : Rep w I' (.slice (some ⟨b, off, none⟩) ((zs.drop off).take n).length cap) (.slz k ((zs.drop off).take n)) := by
      refine .slz _ _ _ _ (by omega) h3 (.inr ⟨b, off, rfl, hk _ (hget_mem hg), fun i hi => ?_⟩)
      rw [e] at hi
      rw [cell_of_block c1, c4 _ (by omega)]
      simp [List.getD, List.getElem?_take, List.getElem?_drop, hi]
    rw [e] at this
    exact this
  | @rowc b off n cap sz ty cs ds hg h1 h2 h3 h ih =>
    intro v hv
    have := hv.lit_inv; subst this
    obtain ⟨cur, c1, c2, c3, c4⟩ := hw.mem _ (hget_mem hg)
    refine .sl _ _ _ _ (fun i => cur.getD (off + i) undef) h2 h3 (.inr ⟨b, off, rfl, hk _ (hget_mem hg), fun i hi => ?_⟩) fun i hi => ih i hi ?_
    · rw [cell_of_block c1]
      have : off + i < cur.size := by omega
      simp [this]
    · have h4 := c4 (off + i) (by omega)
      have : cs.getD (off + i) .any = cs[off + i]'(by omega) := by simp [List.getD, show off + i < cs.length by omega]
      rw [this]
      exact h4
  | @ptc b off sz ty cs ds hg h1 h ih =>
    intro v hv
    have := hv.lit_inv; subst this
    obtain ⟨cur, c1, c2, c3, c4⟩ := hw.mem _ (hget_mem hg)
    refine .ip _ _ (fun i => cur.getD (off + i) undef) (.inr ⟨b, off, rfl, hk _ (hget_mem hg), fun i hi => ?_⟩) fun i hi => ih i hi ?_
    · rw [cell_of_block c1]
      have : off + i < cur.size := by omega
      simp [this]
    · have h4 := c4 (off + i) (by omega)
      have : cs.getD (off + i) .any = cs[off + i]'(by omega) := by simp [List.getD, show off + i < cs.length by omega]
      rw [this]
      exact h4
  | @ptz b off sz ty k zs hg h1 =>
    intro v hv
    have := hv.lit_inv; subst this
    obtain ⟨cur, c1, c2, c3, c4⟩ := hw.mem _ (hget_mem hg)
    refine .ipz _ _ _ (.inr ⟨b, off, rfl, hk _ (hget_mem hg), fun i hi => ?_⟩)
    simp only [List.length_drop] at hi
    rw [cell_of_block c1, c4 _ (by omega)]
    simp [List.getD, List.getElem?_drop]
  | @agg cs ds hl h ih =>
    intro v hv
    cases hv with
    | agg vs cs hs r =>
      refine .agg vs ds (by omega) fun i hi => ih i hi ?_
      have hic : i < cs.length := by omega
      have : cs.getD i .any = cs[i] := by simp [List.getD, hic]
      rw [this]
      exact r i hic
  | @tup cs ds hl h ih =>
    intro v hv
    cases hv with
    | tup vs cs hs r =>
      refine .tup vs ds (by omega) fun i hi => ih i hi ?_
      have hic : i < cs.length := by omega
      have : cs.getD i .any = cs[i] := by simp [List.getD, hic]
      rw [this]
      exact r i hic
  | ifc h ih =>
    intro v hv
    cases hv with
    | ifc t v x r => exact .ifc _ _ _ (ih r)
  | nils =>
    intro v hv
    have := hv.lit_inv; subst this
    exact .sl none 0 0 [] (fun _ => undef) (Nat.le_refl _) (Nat.zero_le _) (.inl rfl) (fun i hi => by simp at hi)
def VwL (H : Hp) : List AV → List AV → Prop
  | [], [] => True
  | x :: r, y :: s => Vw H x y ∧ VwL H r s
  | _, _ => False
theorem VwL.length {H : Hp} : ∀ {l m : List AV}, VwL H l m → m.length = l.length
  | [], [], _ => rfl
  | x :: r, y :: s, h => by simp [VwL.length h.2]
  | [], y :: s, h => h.elim
  | x :: r, [], h => h.elim
theorem VwL.get {H : Hp} : ∀ {l m : List AV}, VwL H l m → ∀ i, i < l.length → Vw H (l.getD i .any) (m.getD i .any)
  | x :: r, y :: s, h, 0, _ => by simpa using h.1
  | x :: r, y :: s, h, i + 1, hi => by simpa using VwL.get h.2 i (by simpa using hi)
  | [], [], _, i, hi => by simp at hi
  | [], y :: s, h, _, _ => h.elim
  | x :: r, [], h, _, _ => h.elim
theorem ACt.frz {P : Program} {f : FuncId} {args args' : List AV} {b : Nat} {m : MB} {p : AV → Prop} (h : ACt P f args' [] (fun r F' => p r ∧ F' = [])) (hv : VwL [(b, m)] args args') :
    ACt P f args [(b, m)] (fun r F' => p r ∧ F' = []) := by
  intro cx vs hK hKT hw hs hr
  have hlen := hv.length
  have hbl := keys_lt hw (b, m) (List.mem_cons_self ..)
  have hKb : cx.K = [b] := by rw [hK]; rfl
  have himm : ∀ c, imm cx cx.w0 [(b, m)] c → cx.I c := by
    rintro c (hc | ⟨h1, h2, h3⟩)
    · exact hc
    · have := h3 (b, m) (List.mem_cons_self ..)
      rcases h1 with h1 | h1
      · rw [hKb] at h1; simp at h1; exact absurd h1.symm this
      · omega
  have := h ⟨cx.w0, fun c => cx.I c ∨ c = b, [], [], fun c hc => ⟨by rcases hc with hc | rfl; exact (cx.hI c hc).1; exact hbl, by simp⟩, fun c hc => by simp at hc⟩ vs rfl rfl ⟨by simp, fun x hx => by simp at hx, fun x hx => by simp at hx, ⟨rfl, rfl, rfl, Nat.le_refl _, fun _ _ _ => rfl⟩, fun x hx => by simp at hx⟩
    (by omega) (fun i hi => by
      have hi' : i < args.length := by omega
      exact (hv.get i hi').rep hw (fun c hc => .inl (himm c hc)) (fun x hx => by simp at hx; subst hx; exact .inr rfl) ((hr i hi').mono fun c hc => ⟨.inl hc, rfl⟩))
  refine this.mono ?_
  rintro e w' ⟨v, r, F', rfl, ⟨hp, rfl⟩, hw', hrep⟩
  have e1 := hw.ext
  have e2 := hw'.ext
  refine ⟨v, r, [], rfl, ⟨hp, rfl⟩, ⟨by simp, fun x hx => by simp at hx, fun x hx => by simp at hx, ?_, fun x hx => by simp at hx⟩, hrep.mono fun c hc => ⟨?_, rfl⟩⟩
  · exact ⟨e2.os.trans e1.os, e2.tape.trans e1.tape, e2.output.trans e1.output, Nat.le_trans e1.size e2.size, fun c hc hk => (e2.blk c hc (by simp)).trans (e1.blk c hc hk)⟩
  · have hsz : cx.w0.heap.size ≤ w'.heap.size := e2.size
    rcases hc with (hc | rfl) | ⟨h1, h2, h3⟩
    · exact .inl hc
    · exact .inr ⟨.inl (by rw [hKb]; simp), by omega, fun x hx => by simp at hx⟩
    · rcases h1 with h1 | h1
      · simp at h1
      · exact .inr ⟨.inr h1, h2, fun x hx => by simp at hx⟩
theorem CallV.frz {P : Program} {f : FuncId} {args args' : List AV} {H : Hp} {x : AV} {post : AV → Hp → Prop} {m : MB} (b : Nat) (hg : hget H b = some m) (h : ACt P f args' [] (Fn x)) (hv : VwL [(b, m)] args args')
    (hp : post x (hdel H b)) : CallV P f args H post := by
  refine ⟨[(b, m)], hdel H b, _, hget_perm hg, h.frz (p := fun r => r = x) hv, ?_⟩
  rintro r F' ⟨rfl, rfl⟩ hn
  exact hp
/-! ## Rows of integers that a callee hands back, ours -/
def Row (k : IntKind) (ty : TypeId) (zs : List Int) (r : AV) (F' : Hp) : Prop :=
  ∃ b' cap', zs.length ≤ cap' ∧ cap' ≤ maxLen ∧ r = ms b' 0 zs.length cap' ∧ F' = [(b', .zs k zs cap' ty)]
theorem fresh_of_nodup {b' : Nat} {m' : MB} {R : Hp} (h : (([(b', m')] ++ R).map (·.1)).Nodup) : fresh R b' := by
  rw [List.map_append, List.nodup_append] at h
  intro x hx
  have := h.2.2 b' (by simp) x.1 (List.mem_map_of_mem hx)
  exact ⟨fun he => this he.symm, this⟩
theorem CallV.row {P : Program} {f : FuncId} {args : List AV} {H : Hp} {b : Nat} {m : MB} {k : IntKind} {ty : TypeId} {zs : List Int} {post : AV → Hp → Prop} (hg : hget H b = some m) (h : ACt P f args [(b, m)] (Row k ty zs))
    (hp : Nu fun b' => Nu fun cap' => Fr (zs.length ≤ cap' ∧ cap' ≤ maxLen ∧ fresh (hdel H b) b') (post (ms b' 0 zs.length cap') ((b', .zs k zs cap' ty) :: hdel H b))) : CallV P f args H post := by
  refine ⟨[(b, m)], hdel H b, _, hget_perm hg, h, ?_⟩
  rintro r F' ⟨b', cap', h1, h2, rfl, rfl⟩ hn
  exact ((hp.out b').out cap').out ⟨h1, h2, fresh_of_nodup hn⟩
theorem CallV.upd {P : Program} {f : FuncId} {args : List AV} {H : Hp} {b : Nat} {m m' : MB} {x : AV} {post : AV → Hp → Prop} (hg : hget H b = some m) (h : ACt P f args [(b, m)] (fun r F' => r = x ∧ F' = [(b, m')]))
    (hp : post x ((b, m') :: hdel H b)) : CallV P f args H post := by
  refine ⟨[(b, m)], hdel H b, _, hget_perm hg, h, ?_⟩
  rintro r F' ⟨rfl, rfl⟩ hn
  exact hp
def NewC (ty : TypeId) (cs : List AV) (r : AV) (F' : Hp) : Prop := ∃ b', r = pt b' 0 ∧ F' = [(b', .cells cs cs.length ty)]
/-! ## Weakenings -/
theorem Wk.slot {env env' : List (Nat × AV)} {H : Hp} (h : ∀ i (w : World) (I : Nat → Prop) v, Rep w I v (look env i) → Rep w I v (look env' i)) : Wk ⟨env, H⟩ ⟨env', H⟩ :=
  fun cx n a w ok => ⟨ok.defers, ok.size, fun i => h i w _ _ (ok.reps i), ok.world⟩
theorem Rep.nilz {w : World} {I : Nat → Prop} {v : Value} {k : IntKind} (h : Rep w I v (.lit (.slice none 0 0))) : Rep w I v (.slz k []) := by
  have := h.lit_inv; subst this
  exact .slz none k [] 0 (by simp) (by simp) (.inl rfl)
theorem Rep.nils {w : World} {I : Nat → Prop} {v : Value} (h : Rep w I v (.lit (.slice none 0 0))) : Rep w I v (.sl 0 []) := by
  have := h.lit_inv; subst this
  exact .sl none 0 0 [] (fun _ => undef) (by simp) (by simp) (.inl rfl) (fun i hi => by simp at hi)
theorem Wk.cons {env : List (Nat × AV)} {H : Hp} {i : Nat} {x y : AV} (hl : look env i = x) (h : ∀ (w : World) (I : Nat → Prop) v, Rep w I v x → Rep w I v y) : Wk ⟨env, H⟩ ⟨(i, y) :: env, H⟩ :=
  Wk.slot fun j w I v hv => by
    simp only [look]
    split
    · rename_i hj; subst hj; rw [hl] at hv; exact h w I v hv
    · exact hv
theorem Wk.trans {s t u : St} (h1 : Wk s t) (h2 : Wk t u) : Wk s u := fun cx n a w ok => h2 cx n a w (h1 cx n a w ok)
def VwC (H : Hp) : List AV → List AV → Prop
  | _, [] => True
  | [], _ :: _ => False
  | x :: r, y :: s => Vw H x y ∧ VwC H r s
theorem VwC.get {H : Hp} : ∀ {l m : List AV}, VwC H l m → m.length ≤ l.length ∧ ∀ i (hi : i < m.length), Vw H (l.getD i .any) m[i]
  | _, [], _ => ⟨by simp, fun i hi => by simp at hi⟩
  | [], y :: s, h => h.elim
  | x :: r, y :: s, h => by
    obtain ⟨h1, h2⟩ := VwC.get h.2
    refine ⟨by simp; omega, fun i hi => ?_⟩
    cases i with
    | zero => simpa using h.1
    | succ i => simpa using h2 i (by simpa using hi)
theorem VwC.refl {H : Hp} : ∀ l : List AV, VwC H l l
  | [] => trivial
  | x :: r => ⟨.same x, VwC.refl r⟩
/-! ## Blocks, picked out -/
def pickB : Hp → Hp → Prop
  | _, [] => True
  | H, (b, m) :: r => hget H b = some m ∧ pickB (hdel H b) r
theorem pickB.perm : ∀ {H' H : Hp}, pickB H H' → ∃ R, H.Perm (H' ++ R)
  | [], H, _ => ⟨H, by simp⟩
  | (b, m) :: r, H, h => by
    obtain ⟨R, hR⟩ := pickB.perm h.2
    exact ⟨R, (hget_perm h.1).trans (by simpa using hR)⟩
theorem Sub.pick {env env' : List (Nat × AV)} {H H' : Hp} (hH : pickB H H') (h : ∀ p ∈ env', look env p.1 = p.2) : Sub ⟨env, H⟩ ⟨env', H'⟩ := by
  obtain ⟨R, hR⟩ := hH.perm
  exact Sub.of_env R hR h
/-! ## Ways out -/
theorem OutQ.row {P : Program} {rs : List ResultVar} {s : St} {k : IntKind} {ty : TypeId} {zs zs' : List Int} {b' n cap' : Nat} (h1 : (resv P s.H s.env rs).1) (h2 : resA (resv P s.H s.env rs).2 = ms b' 0 n cap')
    (hg : hget s.H b' = some (.zs k zs' cap' ty)) (hz : zs' = zs) (hn : zs.length = n) (hc1 : n ≤ cap') (hc2 : cap' ≤ maxLen) : OutQ P rs (Row k ty zs) s := by
  subst hz
  refine OutQ.drop [(b', .zs k zs' cap' ty)] (hdel s.H b') (hget_perm hg) h1 ⟨b', cap', by omega, hc2, ?_, rfl⟩
  rw [h2, hn]
theorem OutQ.fz {P : Program} {t : Tmp} {s : St} {k : IntKind} {ty s0 : TypeId} {zs zs' : List Int} {b n cap : Nat} (h2 : look s.env t = ms b 0 n cap)
    (hg : hget s.H b = some (.zs k zs' s0 ty)) (hz : zs' = zs) (hn : zs.length = n) (hc1 : n ≤ cap) (hc2 : cap ≤ maxLen) : OutQ P [.tmp t] (Fn (.slz k zs)) s := by
  subst hz
  refine OutQ.wk (Wk.freeze b hg) (OutQ.all trivial ?_)
  simp only [resv, resA, look_frzE, h2, frz, if_true]
  rw [if_pos ⟨by omega, hc1, hc2⟩, ← hn]
  simp [Fn]
theorem OutQ.newC {P : Program} {rs : List ResultVar} {s : St} {ty sz : Nat} {cs cs' : List AV} {b' : Nat} (h1 : (resv P s.H s.env rs).1) (h2 : resA (resv P s.H s.env rs).2 = pt b' 0)
    (hg : hget s.H b' = some (.cells cs' sz ty)) (hz : cs' = cs) (hs : sz = cs.length) : OutQ P rs (NewC ty cs) s := by
  subst hz hs
  exact OutQ.drop [(b', .cells cs' cs'.length ty)] (hdel s.H b') (hget_perm hg) h1 ⟨b', h2, rfl⟩
theorem OutQ.upd {P : Program} {rs : List ResultVar} {s : St} {x : AV} {b : Nat} {m m' : MB} (h1 : (resv P s.H s.env rs).1) (h2 : resA (resv P s.H s.env rs).2 = x)
    (hg : hget s.H b = some m) (hm : m = m') : OutQ P rs (fun r F' => r = x ∧ F' = [(b, m')]) s := by
  subst hm
  exact OutQ.drop [(b, m)] (hdel s.H b) (hget_perm hg) h1 ⟨h2, rfl⟩
end Go.Proofs.YtdkkfgcdnojmaaaDoor
