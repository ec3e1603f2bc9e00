/-
  Operations that read memory, cut and look into values: what they come to.
-/
import Derived.Test.YtbnkmhlnoaebcaaLayB
namespace Go.Proofs.Ytbnkmhlnoaebcaa
open Go
set_option linter.unusedSimpArgs false

def hget : Hp → Nat → Option MB
  | [], _ => none
  | (b', m) :: r, b => if b = b' then some m else hget r b

theorem hget_mem {H : Hp} {b : Nat} {m : MB} (h : hget H b = some m) : (b, m) ∈ H := by
  induction H with
  | nil => cases h
  | cons p r ih =>
    obtain ⟨b', m'⟩ := p
    simp only [hget] at h
    split at h
    · rename_i hb; subst hb; cases h; exact List.mem_cons_self ..
    · exact List.mem_cons_of_mem _ (ih h)

def load1m : Option MB → Nat → Prop × AV
  | some (.cells cs _ _), off => (off < cs.length, cs.getD off .any)
  | some (.zs k zs _ _), off => (off < zs.length, iv k (zs.getD off 0))
  | _, _ => (False, .any)

def load1 (H : Hp) : AV → Prop × AV
  | .ip cs => (0 < cs.length, cs.getD 0 .any)
  | .ipz k zs => (0 < zs.length, iv k (zs.getD 0 0))
  | .lit (.pointer (some ⟨b, off, none⟩)) => load1m (hget H b) off
  | _ => (False, .any)

def loadnm (n : Nat) : Option MB → Nat → Prop × AV
  | some (.cells cs _ _), off => (off + n ≤ cs.length, .agg ((cs.drop off).take n))
  | some (.zs k zs _ _), off => (off + n ≤ zs.length, .agg (((zs.drop off).take n).map (iv k)))
  | _, _ => (False, .any)

def loadn (H : Hp) (n : Nat) : AV → Prop × AV
  | .ip cs => (n ≤ cs.length, .agg (cs.take n))
  | .ipz k zs => (n ≤ zs.length, .agg ((zs.take n).map (iv k)))
  | .lit (.pointer (some ⟨b, off, none⟩)) => loadnm n (hget H b) off
  | _ => (False, .any)

def loadv (P : Program) (H : Hp) (T : TypeId) (x : AV) : Prop × AV :=
  match tyc P T with
  | some none => load1 H x
  | some (some n) => loadn H n x
  | none => (False, .any)

section
variable {P : Program} {w : World} {T : TypeId} {cx : Cx} {H : Hp}

theorem cell_of_block {b off : Nat} {cur : Array Value} {ty : TypeId} {fz : Nat × Nat} (h : w.heap[b]? = some (.cells cur ty fz)) : w.cell? ⟨b, off, none⟩ = cur[off]? := by
  simp [World.cell?, h]

theorem rep_load1 (hw : OkW cx H w) {v : Value} {x : AV} (hv : Rep w (imm cx w H) v x) (h : (load1 H x).1) :
    ∃ ad u, v = .pointer (some ad) ∧ w.cell? ad = some u ∧ Rep w (imm cx w H) u (load1 H x).2 := by
  unfold load1 at h ⊢
  split at h
  · cases hv with
    | ip ad cs g hs r =>
      rcases hs with hs | ⟨b, off, ha, hb, hc⟩
      · simp only [hs] at h; omega
      · cases ha
        refine ⟨_, _, rfl, hc 0 h, ?_⟩
        have := r 0 h
        simpa [List.getD, List.getElem?_eq_getElem h] using this
  · cases hv with
    | ipz ad k zs hs =>
      rcases hs with hs | ⟨b, off, ha, hb, hc⟩
      · simp only [hs] at h; omega
      · cases ha
        exact ⟨_, _, rfl, hc 0 h, .lit _⟩
  · rename_i b off
    have := hv.lit_inv
    subst this
    cases hg : hget H b with
    | none => rw [hg] at h; exact h.elim
    | some m =>
      rw [hg] at h
      cases m with
      | cells cs sz ty =>
        obtain ⟨cur, h1, h2, h3, h4⟩ := hw.mem _ (hget_mem hg)
        have hlt : off < cur.size := by have : off < cs.length := h; omega
        refine ⟨_, cur[off], rfl, by rw [cell_of_block h1]; simp [hlt], ?_⟩
        have h' : off < cs.length := h
        have e : cs.getD off .any = cs[off] := by simp [List.getD, h']
        have e2 : cur.getD off undef = cur[off] := by simp [hlt]
        show Rep w _ cur[off] (cs.getD off .any)
        rw [e, ← e2]
        exact h4 off h'
      | zs k zs sz ty =>
        obtain ⟨cur, h1, h2, h3, h4⟩ := hw.mem _ (hget_mem hg)
        exact ⟨_, _, rfl, by rw [cell_of_block h1]; exact h4 off h, .lit _⟩
      | obj o => exact h.elim
  · exact h.elim

theorem rep_agg_range {I : Nat → Prop} {f : Nat → Value} {n : Nat} {cs : List AV} (hn : cs.length = n) (h : ∀ j (hj : j < cs.length), Rep w I (f j) cs[j]) :
    Rep w I (.agg ((List.range n).map f).toArray) (.agg cs) := by
  refine .agg _ _ (by simp [hn]) fun i hi => ?_
  have hi' : i < n := hn ▸ hi
  have : ((List.range n).map f).toArray.getD i undef = f i := by simp [hi']
  rw [this]
  exact h i hi

theorem Addr.add_none {b off j : Nat} : (⟨b, off, none⟩ : Addr).add j = ⟨b, off + j, none⟩ := by
  unfold Addr.add
  split <;> simp_all

theorem rep_loadn {n : Nat} (hw : OkW cx H w) {v : Value} {x : AV} (hv : Rep w (imm cx w H) v x) (h : (loadn H n x).1) :
    ∃ ad f, v = .pointer (some ad) ∧ (∀ j, j < n → w.cell? (ad.add j) = some (f j)) ∧ Rep w (imm cx w H) (.agg ((List.range n).map f).toArray) (loadn H n x).2 := by
  unfold loadn at h ⊢
  split at h
  · rename_i cs
    have h : n ≤ cs.length := h
    cases hv with
    | ip ad cs g hs r =>
      rcases hs with hs | ⟨b, off, ha, hb, hc⟩
      · have : n = 0 := by omega
        subst this
        exact ⟨ad, fun _ => undef, rfl, fun j hj => by omega, rep_agg_range (by simp) (by simp)⟩
      · cases ha
        refine ⟨_, g, rfl, fun j hj => by rw [Addr.add_none]; exact hc j (by omega), rep_agg_range (by simp; omega) fun j hj => ?_⟩
        simp only [List.length_take] at hj
        simp only [List.getElem_take]
        exact r j (by omega)
  · rename_i k zs
    have h : n ≤ zs.length := h
    cases hv with
    | ipz ad k zs hs =>
      rcases hs with hs | ⟨b, off, ha, hb, hc⟩
      · have : n = 0 := by omega
        subst this
        exact ⟨ad, fun _ => undef, rfl, fun j hj => by omega, rep_agg_range (by simp) (by simp)⟩
      · cases ha
        refine ⟨_, _, rfl, fun j hj => by rw [Addr.add_none]; exact hc j (by omega), rep_agg_range (by simp; omega) fun j hj => ?_⟩
        simp only [List.length_map, List.length_take] at hj
        have hj' : j < zs.length := by omega
        simp [List.getD, hj']
        exact .lit _
  · rename_i b off
    have := hv.lit_inv
    subst this
    cases hg : hget H b with
    | none => rw [hg] at h; exact h.elim
    | some m =>
      rw [hg] at h
      cases m with
      | cells cs sz ty =>
        have h : off + n ≤ cs.length := h
        obtain ⟨cur, h1, h2, h3, h4⟩ := hw.mem _ (hget_mem hg)
        refine ⟨_, fun j => cur.getD (off + j) undef, rfl, fun j hj => ?_, rep_agg_range (by simp; omega) fun j hj => ?_⟩
        · rw [Addr.add_none, cell_of_block h1]
          have : off + j < cur.size := by omega
          simp [this]
        · simp only [List.length_take, List.length_drop] at hj
          simp only [List.getElem_take, List.getElem_drop]
          exact h4 (off + j) (by omega)
      | zs k zs sz ty =>
        have h : off + n ≤ zs.length := h
        obtain ⟨cur, h1, h2, h3, h4⟩ := hw.mem _ (hget_mem hg)
        refine ⟨_, fun j => .int k (zs.getD (off + j) 0), rfl, fun j hj => ?_, rep_agg_range (by simp; omega) fun j hj => ?_⟩
        · rw [Addr.add_none, cell_of_block h1]
          exact h4 _ (by omega)
        · simp only [List.length_map, List.length_take, List.length_drop] at hj
          have : off + j < zs.length := by omega
          simp [List.getD, this]
          exact .lit _
      | obj o => exact h.elim
  · exact h.elim

theorem run_loadVar_of (hw : OkW cx H w) {v : Value} {x : AV} (hv : Rep w (imm cx w H) v x) (h : (loadv P H T x).1) :
    ∃ ad u, v = .pointer (some ad) ∧ (loadVar T ad).run P w = .ok u w ∧ Rep w (imm cx w H) u (loadv P H T x).2 := by
  unfold loadv at h ⊢
  split at h
  · rename_i ht
    obtain ⟨ad, u, rfl, hc, hr⟩ := rep_load1 hw hv h
    refine ⟨ad, u, rfl, ?_, hr⟩
    unfold loadVar
    simp only [Sem.run_bind, run_isAgg_one ht, Result.andThen_ok, Bool.false_eq_true, if_false]
    simp [load, Sem.run, hc]
  · rename_i n ht
    obtain ⟨ad, f, rfl, hc, hr⟩ := rep_loadn hw hv h
    refine ⟨ad, _, rfl, ?_, hr⟩
    unfold loadVar
    simp only [Sem.run_bind, (run_isAgg_many ht).1, (run_isAgg_many ht).2, Result.andThen_ok, if_true, run_loadCells w ad n f hc, Sem.run_pure]
  · exact h.elim

theorem run_load_of (hw : OkW cx H w) {v : Value} {x : AV} (hv : Rep w (imm cx w H) v x) (h : (loadv P H T x).1) :
    ∃ u, (Instr.loadAt T v).run P w = .ok u w ∧ Rep w (imm cx w H) u (loadv P H T x).2 := by
  obtain ⟨ad, u, rfl, h1, h2⟩ := run_loadVar_of hw hv h
  exact ⟨u, by simpa [Instr.loadAt, Instr.sureAddr] using h1, h2⟩
end

/-! ## Addresses -/

def addp (o : Nat) : AV → Prop × AV
  | .lit (.pointer (some ⟨b, off, none⟩)) => (True, pt b (off + o))
  | .ip cs => (True, .ip (cs.drop o))
  | .ipz k zs => (True, .ipz k (zs.drop o))
  | _ => (False, .any)

def faddv (P : Program) (T : TypeId) (f : Nat) (x : AV) : Prop × AV :=
  match foff P T f with
  | some o => addp o x
  | none => (False, .any)

/-- The place of an element. -/
def idxp (P : Program) (T : TypeId) (x : AV) (i : Int) : Prop × AV :=
  match elt P T with
  | some (some len, sz) => (0 ≤ i ∧ i < len ∧ (addp (i.toNat * sz) x).1, (addp (i.toNat * sz) x).2)
  | some (none, sz) => match x with
    | .slz k zs => (sz = 1 ∧ 0 ≤ i ∧ i < zs.length, .ipz k (zs.drop i.toNat))
    | .sl n cs => (0 ≤ i ∧ i < n ∧ (i.toNat + 1) * sz ≤ cs.length ∧ 0 < sz, .ip (cs.drop (i.toNat * sz)))
    | .lit (.slice (some ⟨b, off, none⟩) n _) => (0 ≤ i ∧ i < n, pt b (off + i.toNat * sz))
    | _ => (False, .any)
  | none => (False, .any)

def idxav (P : Program) (T : TypeId) (x i : AV) : Prop × AV :=
  match i with
  | .lit (.int _ i) => idxp P T x i
  | _ => (False, .any)

section
variable {P : Program} {w : World} {T : TypeId} {I : Nat → Prop}

theorem Spot.drop {ad : Addr} {n o : Nat} {g : Nat → Value} (h : Spot w I (some ad) n g) (ho : o < n) :
    ad.spot = none ∧ Spot w I (some (ad.add o)) (n - o) (fun i => g (o + i)) := by
  rcases h with h | ⟨b, off, ha, hb, hc⟩
  · omega
  · cases ha
    refine ⟨rfl, .inr ⟨b, off + o, by rw [Addr.add_none], hb, fun i hi => ?_⟩⟩
    have := hc (o + i) (by omega)
    rwa [← Nat.add_assoc] at this

theorem rep_addp {o : Nat} {v : Value} {x : AV} (hv : Rep w I v x) (h : (addp o x).1) : ∃ ad, v = .pointer (some ad) ∧ Rep w I (.pointer (some (ad.add o))) (addp o x).2 := by
  unfold addp at h ⊢
  split at h
  · have := hv.lit_inv; subst this
    exact ⟨_, rfl, by rw [Addr.add_none]; exact .lit _⟩
  · rename_i cs
    cases hv with
    | ip ad cs g hs r =>
      refine ⟨ad, rfl, ?_⟩
      by_cases ho : o < cs.length
      · obtain ⟨_, h2⟩ := hs.drop ho
        refine .ip _ _ (fun i => g (o + i)) (by simpa using h2) fun i hi => ?_
        simp only [List.length_drop] at hi
        simp only [List.getElem_drop]
        exact r _ (by omega)
      · exact .ip _ _ (fun _ => undef) (.inl (by simp; omega)) fun i hi => by simp at hi; omega
  · rename_i k zs
    cases hv with
    | ipz ad k zs hs =>
      refine ⟨ad, rfl, ?_⟩
      by_cases ho : o < zs.length
      · obtain ⟨_, h2⟩ := hs.drop ho
        exact .ipz _ _ _ (by simpa [List.getD] using h2)
      · exact .ipz _ _ _ (.inl (by simp; omega))
  · exact h.elim

theorem run_fadd {f : Nat} {v : Value} {x : AV} (hv : Rep w I v x) (h : (faddv P T f x).1) : ∃ u, (Instr.fieldAt T v f).run P w = .ok u w ∧ Rep w I u (faddv P T f x).2 := by
  unfold faddv at h ⊢
  split at h
  · rename_i o ho
    obtain ⟨ad, rfl, hr⟩ := rep_addp hv h
    refine ⟨_, ?_, hr⟩
    unfold foff at ho
    split at ho
    · rename_i fs hd
      split at ho
      · rename_i fl hfl
        split at ho
        · rename_i i hi
          split at ho
          · cases ho
          · rename_i hz
            cases ho
            simp [Instr.fieldAt, run_underlying hd, hfl, Instr.sureAddr, fieldPlace, run_sizeOf_info hi, hz]
        · cases ho
      · cases ho
    · cases ho
  · exact h.elim

theorem run_idx {v u : Value} {x i : AV} (hv : Rep w I v x) (hi : Rep w I u i) (h : (idxav P T x i).1) : ∃ r, (Instr.indexAt T v u).run P w = .ok r w ∧ Rep w I r (idxav P T x i).2 := by
  unfold idxav at h ⊢
  split at h
  · rename_i k i
    have := hi.lit_inv; subst this
    unfold idxp at h ⊢
    split at h
    · rename_i len sz he
      obtain ⟨h0, h1, h2⟩ := h
      obtain ⟨ad, rfl, hr⟩ := rep_addp hv h2
      unfold elt at he
      split at he
      · rename_i len' e hd
        cases hi' : P.info? e with
        | none => rw [hi'] at he; cases he
        | some inf =>
          rw [hi'] at he
          cases he
          exact ⟨_, by simp [Instr.indexAt, asIntOf, run_underlying hd, Instr.sureAddr, h0, h1, run_sizeOf_info hi'], hr⟩
      · rename_i e hd
        cases hi' : P.info? e with
        | none => rw [hi'] at he; cases he
        | some inf => rw [hi'] at he; cases he
      · cases he
    · rename_i sz he
      unfold elt at he
      split at he
      · rename_i len' e hd
        cases hi' : P.info? e with
        | none => rw [hi'] at he; cases he
        | some inf => rw [hi'] at he; cases he
      · rename_i e hd
        cases hi' : P.info? e with
        | none => rw [hi'] at he; cases he
        | some inf =>
          rw [hi'] at he
          cases he
          split at h
          · rename_i k' zs
            obtain ⟨hs, h0, h1⟩ := h
            cases hv with
            | slz a k zs cap hn hm hsp =>
              rcases hsp with hsp | ⟨b, off, rfl, hb, hc⟩
              · omega
              · refine ⟨.pointer (some ⟨b, off + i.toNat, none⟩), by simp [Instr.indexAt, asIntOf, run_underlying hd, h0, h1, run_sizeOf_info hi', hs, Addr.add_none], ?_⟩
                have hlt : i.toNat < zs.length := by omega
                refine .ipz _ _ _ (.inr ⟨b, off + i.toNat, rfl, hb, fun j hj => ?_⟩)
                have := hc (i.toNat + j) (by simp at hj; omega)
                simpa [Nat.add_assoc, List.getD] using this
          · rename_i n cs
            obtain ⟨h0, h1, h2, h3⟩ := h
            cases hv with
            | sl a n cap cs g hn hm hsp r =>
              have hlt : i.toNat * inf.size < cs.length := by rw [Nat.add_mul] at h2; omega
              rcases hsp with hsp | ⟨b, off, rfl, hb, hc⟩
              · omega
              · refine ⟨.pointer (some ⟨b, off + i.toNat * inf.size, none⟩), by simp [Instr.indexAt, asIntOf, run_underlying hd, h0, h1, run_sizeOf_info hi', Addr.add_none], ?_⟩
                refine .ip _ _ (fun j => g (i.toNat * inf.size + j)) (.inr ⟨b, off + i.toNat * inf.size, rfl, hb, fun j hj => ?_⟩) fun j hj => ?_
                · have := hc (i.toNat * inf.size + j) (by simp at hj; omega)
                  rwa [← Nat.add_assoc] at this
                · simp only [List.length_drop] at hj
                  simp only [List.getElem_drop]
                  exact r _ (by omega)
          · obtain ⟨h0, h1⟩ := h
            have := hv.lit_inv; subst this
            exact ⟨_, by simp [Instr.indexAt, asIntOf, run_underlying hd, h0, h1, run_sizeOf_info hi', Addr.add_none], .lit _⟩
          · exact h.elim
      · cases he
    · exact h.elim
  · exact h.elim
end
end Go.Proofs.Ytbnkmhlnoaebcaa
