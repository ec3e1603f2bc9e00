/-
  The walks and the laws that the statement leans on, part 13.
-/
import Derived.LaidMore
import Derived.OpenShut
import Derived.MakeChecks
import Derived.Test.YtdkkfgcdnojmaaaDoorS12
namespace Go.Proofs.YtdkkfgcdnojmaaaDoor
open Go
set_option linter.unusedSimpArgs false
set_option linter.unusedVariables false
def TabOk (w : World) (x : Nat × MB) : Prop := ∃ (k : IntKind) (zs : List Int) (ty : TypeId) (cur : Array Value), x.2 = .zs k zs zs.length ty ∧ w.heap[x.1]? = some (.cells cur ty (0, 0)) ∧ cur.toList = zs.map (Value.int k)
theorem TabOk.mok {w : World} {I : Nat → Prop} {x : Nat × MB} (h : TabOk w x) : MOk w I x.1 x.2 := by
  obtain ⟨k, zs, ty, cur, e1, e2, e3⟩ := h
  rw [e1]
  have hs : cur.size = zs.length := by have := congrArg List.length e3; simpa using this
  refine ⟨cur, e2, hs, Nat.le_refl _, fun i hi => ?_⟩
  rw [← Array.getElem?_toList, e3]
  simp [List.getD, hi]
theorem TabOk.same {w w' : World} {I : Nat → Prop} {x : Nat × MB} (h : TabOk w x) (h' : MOk w' I x.1 x.2) : w'.heap[x.1]? = w.heap[x.1]? := by
  obtain ⟨k, zs, ty, cur, e1, e2, e3⟩ := h
  rw [e1] at h'
  obtain ⟨cur', c1, c2, c3, c4⟩ := h'
  have hs : cur.size = zs.length := by have := congrArg List.length e3; simpa using this
  rw [e2, c1]
  have : cur' = cur := by
    apply Array.ext' 
    apply List.ext_getElem?
    intro i
    by_cases hi : i < zs.length
    · rw [Array.getElem?_toList, c4 i hi, e3]; simp [List.getD, hi]
    · rw [List.getElem?_eq_none (by simp; omega), List.getElem?_eq_none (by simp; omega)]
  rw [this]
theorem ACt.lawG {P : Program} {f : FuncId} {args : List AV} {G : Hp} (h : ACt P f args G fun r F' => r = bv true ∧ F' = G) (hb : ((P.funcs[f]?).any fun fn => fn.body.isSome && !(fn.name == "runtime.NumGoroutine")) = true) {w : World} {vs : Array Value} (hs : vs.size = args.length)
    (hv : ∀ i, i < args.length → Rep w (fun b => b < w.heap.size) (vs.getD i undef) (args.getD i .any)) (hc : args.all clA = true) (hn : (G.map (·.1)).Nodup) (hG : ∀ x ∈ G, TabOk w x) :
    Calls P f vs w fun e w' => e = .returned (.bool true) ∧ Go.RowKit.Below w.heap.size w w' := by
  have := h ⟨w, fun _ => False, G.map (·.1), roK G, fun b hb => hb.elim, fun b hb => by
      obtain ⟨x, hx, rfl, -⟩ := roK_mem.1 hb
      exact ((hG x hx).mok (I := fun _ => False)).lt⟩ vs rfl rfl ⟨hn, fun x hx => .inl (List.mem_map_of_mem hx), fun x hx => (hG x hx).mok, ⟨rfl, rfl, rfl, Nat.le_refl _, fun _ _ _ => rfl⟩, roK_ro hn⟩ hs
    (fun i hi => (hv i hi).closed (by
      have := List.all_eq_true.1 hc _ (List.getElem_mem hi)
      simpa [List.getD, hi] using this))
  obtain ⟨fn, hf, hb⟩ : ∃ fn, P.funcs[f]? = some fn ∧ (fn.body.isSome && !(fn.name == "runtime.NumGoroutine")) = true := by
    cases e : P.funcs[f]? with
    | none => rw [e] at hb; cases hb
    | some fn => exact ⟨fn, rfl, by rw [e] at hb; exact hb⟩
  have hcl : (callFunc f vs).run P w = .ok (.enter f vs) w := by
    simp at hb
    obtain ⟨h1, h2⟩ := hb
    obtain ⟨c, hc⟩ := Option.isSome_iff_exists.1 h1
    simp [callFunc, program, Sem.run, hf, hc, h2]
  rcases Or.symm this with ⟨v, w', h1, _⟩ | ⟨_, this⟩
  · exact absurd (h1.symm.trans hcl) (by simp)
  refine this.mono ?_
  rintro e w' ⟨v, r, F', rfl, ⟨rfl, rfl⟩, hw, hr⟩
  rw [hr.lit_inv]
  refine ⟨rfl, ⟨hw.ext.os, hw.ext.tape, hw.ext.output, hw.ext.size, fun k hk => ?_⟩⟩
  by_cases hm : k ∈ F'.map (·.1)
  · obtain ⟨x, hx, rfl⟩ := List.mem_map.1 hm
    exact (hG x hx).same (hw.mem x hx)
  · exact hw.ext.blk k hk (.inl hm)
def TabR (w : World) (x : Nat × MB) : Prop := ∃ (k : IntKind) (zs : List Int) (ty : TypeId) (cur : Array Value), x.2 = .ro k zs zs.length ty ∧ w.heap[x.1]? = some (.cells cur ty (0, 0)) ∧ cur.toList = zs.map (Value.int k)
theorem TabR.mok {w : World} {I : Nat → Prop} {x : Nat × MB} (h : TabR w x) : MOk w I x.1 x.2 := by
  obtain ⟨k, zs, ty, cur, e1, e2, e3⟩ := h
  rw [e1]
  have hs : cur.size = zs.length := by have := congrArg List.length e3; simpa using this
  refine ⟨cur, e2, hs, Nat.le_refl _, fun i hi => ?_⟩
  rw [← Array.getElem?_toList, e3]
  simp [List.getD, hi]
theorem TabR.ro {w : World} {x : Nat × MB} (h : TabR w x) : isRo x.2 = true := by
  obtain ⟨k, zs, ty, cur, e1, -⟩ := h
  rw [e1]; rfl
theorem row_of_trod {H : Type} {enc : TypeId × Value → H} {P : Program} {w : World} {base fuel : Nat} {sp : Nat → Bool} {held : Bool} {t e : TypeId} {m : Nat} {k : IntKind} {cs : List Value} {zs : List Int} {p : List MemPlace}
    (ht : P.underlying t = some (.array m e)) (he : P.underlying e = some (.int k)) (hc : P.cellsOf e = 1)
    (h : DataW.trod enc P w base sp held fuel t cs = some (.agg (zs.map fun z => .lit (.int k z)), p)) (hl : cs.length = m) : cs = zs.map (Value.int k) := by
  obtain ⟨xs, n, rfl, hx, hlen, hxl, hel⟩ := DataW.trod_array ht h
  simp only [Prod.mk.injEq, DataW.agg.injEq] at hx
  have hzl : zs.length = m := by have := congrArg List.length hx.1; simpa [hxl] using this
  refine List.ext_getElem (by simp [hl, hzl]) fun i h1 h2 => ?_
  have hi : i < m := by omega
  have hh := hel i hi
  rw [hc, Nat.mul_one, List.getElem?_eq_getElem (by omega)] at hh
  have e1 : (cs.drop i).take 1 = [cs[i]] := by
    rw [List.drop_eq_getElem_cons h1]; rfl
  rw [e1] at hh
  obtain ⟨z, a1, a2, _⟩ := DataW.trod_int he hh
  have e2 : cs[i] = .int k z := by simpa using a1
  have e3 : (xs[i]'(by omega)).1 = .lit (.int k z) := by rw [a2]
  have e4 : (xs.map (·.1))[i]'(by simpa using (by omega : i < xs.length)) = (zs.map fun z => (DataW.lit (.int k z) : DataW H))[i]'(by simp; omega) := by simp only [hx.1]
  simp only [List.getElem_map] at e4
  rw [e3] at e4
  have e5 : z = zs[i]'(by omega) := by injection e4 with e4; injection e4
  rw [e2, e5]
  simp
theorem fr0S : Sm (¬ ((1 : Nat) = 0)) := Sm.mk Nat.one_ne_zero
theorem Yo {p : Prop} (h : p := by first | assumption | omega | decide | trivial | (intro hob; simp only [hob, ZF]; done) | (intros; (repeat' refine And.intro ?_ ?_) <;> first | assumption | omega | trivial | decide) | (intros; simp only [ZE] at *; (repeat' refine And.intro ?_ ?_) <;> first | assumption | omega | trivial)) : p := h
theorem Yx {p : Prop} (h : ¬ p := by intro hcs; first | exact False.elim hcs | (exfalso; omega)) : ¬ p := h
theorem Yxc {p q : Prop} (h : ¬ p) : Cs p q := ⟨fun hp => (h hp).elim⟩
theorem Yq {P Q : Prop} (q : Q) (h : P = Q := by (conv => lhs; simp only [SeqQ, BlkQ, LoopQ, BodyQ, ↓reduceIte, Nat.reduceEqDiff, reduceCtorEq, look, true_and]) <;> exact rfl) : P := h.mpr q
theorem Ys {P Q : Prop} (q : Q) (h : P = Q := by (try (conv => lhs; simp -dsimp only [ZK, rvc, capA, appA, litL, mkfv, drawF, headN, pureH, stp, dvc, calleeOf, gcall, pev, eff, newB, okd, og, ogs, ogo, ogp, slv, bltv, opd, litv, strip, one, both, putE, St.put, look, gdOf, gdv, picka, pickv, pickw, binv, bini, bins, binb, binp, binq, isSlT, bina, shp, eqCells, unv, convv, nilv, faddv, addp, idxav, idxp, load1, load1m, loadn, loadnm, loadv, hget, hset, hrep, hdel, slicev, slice3v, bnd, shift1, lenv, capv, IntKind.bits, extractv, fieldv, indexv, min2v, max2v, mkiv, tasv, tasz, cellsA, fillA, buildv, stC, oneC, rowMB, intsA, plN, appE, appZ, appC, appS, srcB, appNZ, appNC, VwL, srcC, srcZ, srcM, isBoolT, isPtrT, isSliceT, uOk, Value.oneCell', Nat.reducePow, Int.reducePow, Nat.reduceAdd, Nat.reduceMul, Nat.reduceSub, Nat.reduceLT, Nat.reduceLeDiff, Nat.reduceEqDiff, Nat.reduceBEq, Nat.reduceDiv, Nat.reduceMod, ↓reduceIte, reduceCtorEq, Int.reduceToNat, Int.reduceLT, Int.reduceLE, drawAF, alF, drawSF, drawMF, mkS, drawCF, xvc, xst, splitH, calleeV, drawWF, drawNF, drawNF1, drawNTF, nvc, chF, chS, splA, mkV, SeqQ, BlkQ, LoopQ, BodyQ, FA.out, FR.out])) <;> exact rfl) : P := h.mpr q
theorem Yu {p G R : Prop} (h : p → Sm R → G := by intro c r; exact CallV.upd (by simp only [hget, ↓reduceIte, FA.out, FR.out]; first | done | rfl) c r.out) (c : p) (r : Sm R) : G := h c r
theorem Yw2 {p G R : Prop} (h : p → Sm R → G := by intro c r; exact CallV.updM c (perm2 (by simp only [hget, hdel, ↓reduceIte, FA.out, FR.out]; first | done | rfl) (by simp only [hget, hdel, ↓reduceIte, FA.out, FR.out]; first | done | rfl)) r.out) (c : p) (r : Sm R) : G := h c r
theorem Yl2 {p G R : Prop} (h : p → Sm R → G := by intro c r; first | exact CallV.updM c (perm2 (by simp only [hget, hdel, ↓reduceIte, FA.out, FR.out]; first | done | rfl) (by simp only [hget, hdel, ↓reduceIte, FA.out, FR.out]; first | done | rfl)) r.out | exact ExF.up ⟨_, (perm2 (by simp only [hget, hdel, ↓reduceIte, FA.out, FR.out]; first | done | rfl) (by simp only [hget, hdel, ↓reduceIte, FA.out, FR.out]; first | done | rfl))⟩ c r.out | exact ExG.up ⟨_, (perm2 (by simp only [hget, hdel, ↓reduceIte, FA.out, FR.out]; first | done | rfl) (by simp only [hget, hdel, ↓reduceIte, FA.out, FR.out]; first | done | rfl))⟩ (fun _ => c) r.out | exact ExG.upJ ⟨_, (perm2 (by simp only [hget, hdel, ↓reduceIte, FA.out, FR.out]; first | done | rfl) (by simp only [hget, hdel, ↓reduceIte, FA.out, FR.out]; first | done | rfl))⟩ (fun _ => c) r.out | exact ExG.upI ⟨_, (perm2 (by simp only [hget, hdel, ↓reduceIte, FA.out, FR.out]; first | done | rfl) (by simp only [hget, hdel, ↓reduceIte, FA.out, FR.out]; first | done | rfl))⟩ (fun _ => c) Yo r.out) (c : p) (r : Sm R) : G := h c r
theorem Yg {P : Program} {rs : List ResultVar} {post : AV → Hp → Prop} {s : St} {Q : Prop} (q : Q) (h1 : (resv P s.H s.env rs).1 := by simp only [resv, ZK, look, loadv, loadn, loadnm, load1, load1m, hget, ↓reduceIte, Nat.reduceEqDiff, Nat.reduceAdd, Nat.reduceMul, Nat.reduceLeDiff, Nat.reduceLT, reduceCtorEq, FA.out, FR.out])
    (h2 : post (resA (resv P s.H s.env rs).2) [] = Q := by (try (conv => lhs; skip; (try simp only [resv, resA, Fn, ZK, look, loadv, loadn, loadnm, load1, load1m, hget, ↓reduceIte, Nat.reduceEqDiff, Nat.reduceAdd, Nat.reduceMul, Nat.reduceLeDiff, Nat.reduceLT, reduceCtorEq, FA.out, FR.out]); (try simp [resA, Fn, look, FA.out, FR.out]))) <;> exact rfl) : OutQ P rs post s := OutQ.all h1 (h2.mpr q)
theorem Yc {p G R : Prop} (h : p → Sm R → G := by intro c r; first | exact CallV.fn c r.out | exact ExF.mk c r.out | exact ExG.mk (fun _ => c) r.out | exact ExG.mkJ (fun _ => c) r.out | exact ExG.mkI Yo (fun _ => c) r.out) (c : p) (r : Sm R) : G := h c r
theorem Yfr {p K : Prop} (h : Fr p K) : Fr p K := h
theorem Yf {p F K q : Prop} (f : Sm F) (r : q → Sm (p ∧ F) → Sm K) (h : p → q := by first | exact fun h => (And.intro h.1 h.2.1 : _ ≤ _ ∧ _ ≤ _) | exact fun h => (h.1 : _ ≤ _) | exact fun _ => True.intro) : Fr p K := ⟨fun h' => (r (h h') ⟨h', f.out⟩).out⟩
end Go.Proofs.YtdkkfgcdnojmaaaDoor
