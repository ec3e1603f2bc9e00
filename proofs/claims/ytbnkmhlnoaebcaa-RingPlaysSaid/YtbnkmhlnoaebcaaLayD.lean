/-
  More operations that leave memory as it is (cuts, lengths, conversions, parts), and all of them in one function with its law.
-/
import Derived.Test.YtbnkmhlnoaebcaaLayC
namespace Go.Proofs.Ytbnkmhlnoaebcaa
open Go
set_option linter.unusedSimpArgs false
set_option linter.unusedVariables false

def bstr (zs : List Int) : ByteArray := ⟨(zs.map fun n => UInt8.ofNat n.toNat).toArray⟩

def isSliceT (P : Program) (T : TypeId) : Prop := ∃ e, P.underlying T = some (.slice e)

def bnd (d : Int) : Option AV → Prop × Int
  | none => (True, d)
  | some (.lit (.int _ i)) => (True, i)
  | some _ => (False, 0)

def shift1 (cap l off sz : Nat) : Nat := if cap = l then off else off + l * sz

def slicev (P : Program) (T : TypeId) (x : AV) (lo hi : Option AV) : Prop × AV :=
  match x with
  | .lit (.string s) => (P.underlying T = some .string ∧ (bnd 0 lo).1 ∧ (bnd s.size hi).1 ∧ 0 ≤ (bnd 0 lo).2 ∧ (bnd 0 lo).2 ≤ (bnd s.size hi).2 ∧ (bnd s.size hi).2 ≤ s.size,
      .lit (.string (s.extract (bnd 0 lo).2.toNat (bnd s.size hi).2.toNat)))
  | .slz k zs => (elt P T = some (none, 1) ∧ (bnd 0 lo).1 ∧ (bnd zs.length hi).1 ∧ 0 ≤ (bnd 0 lo).2 ∧ (bnd 0 lo).2 ≤ (bnd zs.length hi).2 ∧ (bnd zs.length hi).2 ≤ zs.length,
      .slz k ((zs.take (bnd zs.length hi).2.toNat).drop (bnd 0 lo).2.toNat))
  | .sl n cs => match elt P T with
    | some (none, sz) => (0 < sz ∧ n * sz = cs.length ∧ (bnd 0 lo).1 ∧ (bnd n hi).1 ∧ 0 ≤ (bnd 0 lo).2 ∧ (bnd 0 lo).2 ≤ (bnd n hi).2 ∧ (bnd n hi).2 ≤ n,
        .sl ((bnd n hi).2.toNat - (bnd 0 lo).2.toNat) ((cs.take ((bnd n hi).2.toNat * sz)).drop ((bnd 0 lo).2.toNat * sz)))
    | _ => (False, .any)
  | .lit (.slice (some ⟨b, off, none⟩) n cap) => match elt P T with
    | some (none, sz) => ((bnd 0 lo).1 ∧ (bnd n hi).1 ∧ 0 ≤ (bnd 0 lo).2 ∧ (bnd 0 lo).2 ≤ (bnd n hi).2 ∧ (bnd n hi).2 ≤ cap,
        ms b (shift1 cap (bnd 0 lo).2.toNat off sz) ((bnd n hi).2.toNat - (bnd 0 lo).2.toNat) (cap - (bnd 0 lo).2.toNat))
    | _ => (False, .any)
  | .lit (.slice none n cap) => match elt P T with
    | some (none, _) => ((bnd 0 lo).1 ∧ (bnd n hi).1 ∧ 0 ≤ (bnd 0 lo).2 ∧ (bnd 0 lo).2 ≤ (bnd n hi).2 ∧ (bnd n hi).2 ≤ cap,
        .lit (.slice none ((bnd n hi).2.toNat - (bnd 0 lo).2.toNat) (cap - (bnd 0 lo).2.toNat)))
    | _ => (False, .any)
  | .lit (.pointer (some ⟨b, off, none⟩)) => match elt P T with
    | some (some len, sz) => ((bnd 0 lo).1 ∧ (bnd len hi).1 ∧ 0 ≤ (bnd 0 lo).2 ∧ (bnd 0 lo).2 ≤ (bnd len hi).2 ∧ (bnd len hi).2 ≤ len,
        ms b (shift1 len (bnd 0 lo).2.toNat off sz) ((bnd len hi).2.toNat - (bnd 0 lo).2.toNat) (len - (bnd 0 lo).2.toNat))
    | _ => (False, .any)
  | _ => (False, .any)

section
variable {P : Program} {w : World} {T : TypeId} {I : Nat → Prop}

/-- A bound that is there, as a value. -/
def BV (w : World) (I : Nat → Prop) (v : Option Value) (x : Option AV) : Prop :=
  match v, x with
  | none, none => True
  | some v, some x => Rep w I v x
  | _, _ => False

theorem BV.cases {v : Option Value} {x : Option AV} {d : Int} (h : BV w I v x) (hb : (bnd d x).1) :
    (v = none ∧ (bnd d x).2 = d) ∨ ∃ k i, v = some (.int k i) ∧ (bnd d x).2 = i := by
  unfold BV at h
  split at h
  · exact .inl ⟨rfl, rfl⟩
  · rename_i v x
    cases x <;> simp only [bnd] at hb
    rename_i u
    have := h.lit_inv
    subst this
    cases v <;> simp only [bnd] at hb ⊢
    exact .inr ⟨_, _, rfl, rfl⟩
  · exact h.elim

theorem run_sliceBounds (isSlice : Bool) {len cap : Nat} {lo hi : Option Value} {x y : Option AV} (hlo : BV w I lo x) (hhi : BV w I hi y)
    (h1 : (bnd 0 x).1) (h2 : (bnd len y).1) (h3 : 0 ≤ (bnd 0 x).2) (h4 : (bnd 0 x).2 ≤ (bnd len y).2) (h5 : (bnd len y).2 ≤ cap) :
    (Instr.sliceBounds isSlice len cap lo hi none).run P w = .ok ((bnd 0 x).2.toNat, (bnd len y).2.toNat, cap) w := by
  rcases hlo.cases h1 with ⟨rfl, e1⟩ | ⟨k1, i1, rfl, e1⟩ <;> rcases hhi.cases h2 with ⟨rfl, e2⟩ | ⟨k2, i2, rfl, e2⟩ <;> rw [e1] at h3 h4 ⊢ <;> rw [e2] at h4 h5 ⊢
  · simp [Instr.sliceBounds]
  · have : 0 ≤ i2 := h4
    simp [Instr.sliceBounds, Instr.sliceBound, asIntOf, this, h5]
  · have h6 : i1 ≤ (len : Int) := h4
    simp [Instr.sliceBounds, Instr.sliceBound, asIntOf, h3, h6]
  · have h6 : 0 ≤ i2 := Int.le_trans h3 h4
    simp [Instr.sliceBounds, Instr.sliceBound, asIntOf, h3, h5, h6]
    intro h
    omega

theorem elt_slice {sz : Nat} (h : elt P T = some (none, sz)) : ∃ e, P.underlying T = some (.slice e) ∧ (sizeOf e).run P w = .ok sz w := by
  unfold elt at h
  split at h
  · rename_i e hd
    cases hi' : P.info? e with
    | none => rw [hi'] at h; cases h
    | some inf => rw [hi'] at h; cases h
  · rename_i e hd
    cases hi' : P.info? e with
    | none => rw [hi'] at h; cases h
    | some inf => rw [hi'] at h; cases h; exact ⟨_, hd, run_sizeOf_info hi'⟩
  · cases h

theorem elt_array {len sz : Nat} (h : elt P T = some (some len, sz)) : ∃ e, P.underlying T = some (.array len e) ∧ (sizeOf e).run P w = .ok sz w := by
  unfold elt at h
  split at h
  · rename_i e hd
    cases hi' : P.info? e with
    | none => rw [hi'] at h; cases h
    | some inf => rw [hi'] at h; cases h; exact ⟨_, hd, run_sizeOf_info hi'⟩
  · rename_i e hd
    cases hi' : P.info? e with
    | none => rw [hi'] at h; cases h
    | some inf => rw [hi'] at h; cases h
  · cases h

theorem cut_addr {cap l off sz b : Nat} : (if cap = l then (⟨b, off, none⟩ : Addr) else (⟨b, off, none⟩ : Addr).add (l * sz)) = ⟨b, shift1 cap l off sz, none⟩ := by
  unfold shift1
  split
  · rfl
  · rw [Addr.add_none]

theorem run_slice {v : Value} {x : AV} {vlo vhi : Option Value} {lo hi : Option AV} (hv : Rep w I v x) (hlo : BV w I vlo lo) (hhi : BV w I vhi hi) (h : (slicev P T x lo hi).1) :
    ∃ r, (Instr.sliceAt T v vlo vhi none).run P w = .ok r w ∧ Rep w I r (slicev P T x lo hi).2 := by
  unfold slicev at h ⊢
  split at h
  · rename_i s
    obtain ⟨hd, h1, h2, h3, h4, h5⟩ := h
    have := hv.lit_inv; subst this
    refine ⟨_, ?_, .lit _⟩
    simp [Instr.sliceAt, run_underlying hd, Instr.slice, run_sliceBounds (P := P) false hlo hhi h1 h2 h3 h4 h5]
  · rename_i k zs
    obtain ⟨he, h1, h2, h3, h4, h5⟩ := h
    obtain ⟨e, hd, hs⟩ := elt_slice (w := w) he
    cases hv with
    | slz a k zs cap hn hm hsp =>
      have hb := run_sliceBounds (P := P) (cap := cap) true hlo hhi h1 h2 h3 h4 (by omega)
      generalize (bnd 0 lo).2 = l at *
      generalize (bnd zs.length hi).2 = u at *
      refine ⟨.slice (if cap = l.toNat then a else a.map (·.add (l.toNat * 1))) (u.toNat - l.toNat) (cap - l.toNat), by simp [Instr.sliceAt, run_underlying hd, Instr.slice, hb, hs], ?_⟩
      have hlen : ((zs.take u.toNat).drop l.toNat).length = u.toNat - l.toNat := by simp; omega
      rw [← hlen]
      refine .slz _ _ _ _ (by rw [hlen]; omega) (by omega) ?_
      rw [hlen]
      by_cases hlu : u.toNat - l.toNat = 0
      · exact .inl hlu
      · rcases hsp with hsp | ⟨b, off, rfl, hb, hc⟩
        · omega
        · refine .inr ⟨b, off + l.toNat, by rw [if_neg (by omega)]; simp [Addr.add_none], hb, fun i hi' => ?_⟩
          have := hc (l.toNat + i) (by omega)
          rw [Nat.add_assoc, this]
          congr 2
          simp [List.getD, List.getElem?_drop, List.getElem?_take, show l.toNat + i < u.toNat by omega]
  · rename_i n cs
    split at h
    · rename_i sz he
      obtain ⟨hz, hl, h1, h2, h3, h4, h5⟩ := h
      obtain ⟨e, hd, hs⟩ := elt_slice (w := w) he
      cases hv with
      | sl a n cap cs g hn hm hsp r =>
        have hb := run_sliceBounds (P := P) (cap := cap) true hlo hhi h1 h2 h3 h4 (by omega)
        generalize (bnd 0 lo).2 = l at *
        generalize (bnd n hi).2 = u at *
        refine ⟨.slice (if cap = l.toNat then a else a.map (·.add (l.toNat * sz))) (u.toNat - l.toNat) (cap - l.toNat), by simp [Instr.sliceAt, run_underlying hd, Instr.slice, hb, hs], ?_⟩
        have hun : u.toNat * sz ≤ cs.length := by rw [← hl]; exact Nat.mul_le_mul_right _ (by omega)
        have hlen : ((cs.take (u.toNat * sz)).drop (l.toNat * sz)).length = u.toNat * sz - l.toNat * sz := by simp; omega
        refine .sl _ _ _ _ (fun i => g (l.toNat * sz + i)) (by omega) (by omega) ?_ ?_
        · rw [hlen]
          by_cases hlu : u.toNat - l.toNat = 0
          · exact .inl (by rw [← Nat.sub_mul, hlu, Nat.zero_mul])
          · have hlt : l.toNat * sz < u.toNat * sz := Nat.mul_lt_mul_of_pos_right (by omega) hz
            rcases hsp with hsp | ⟨b, off, rfl, hb, hc⟩
            · omega
            · refine .inr ⟨b, off + l.toNat * sz, by rw [if_neg (by omega)]; simp [Addr.add_none], hb, fun i hi' => ?_⟩
              have := hc (l.toNat * sz + i) (by omega)
              rw [Nat.add_assoc, this]
        · intro i hi'
          rw [hlen] at hi'
          simp only [List.getElem_drop, List.getElem_take]
          exact r _ (by omega)
    · exact h.elim
  · rename_i b off n cap
    split at h
    · rename_i sz he
      obtain ⟨h1, h2, h3, h4, h5⟩ := h
      obtain ⟨e, hd, hs⟩ := elt_slice (w := w) he
      have := hv.lit_inv; subst this
      have hb := run_sliceBounds (P := P) true hlo hhi h1 h2 h3 h4 h5
      refine ⟨_, ?_, .lit _⟩
      simp [Instr.sliceAt, run_underlying hd, Instr.slice, hb, hs]
      have hc := cut_addr (cap := cap) (l := (bnd 0 lo).2.toNat) (off := off) (sz := sz) (b := b)
      split <;> rename_i hcap
      · rw [if_pos hcap] at hc; rw [← hc]
      · rw [if_neg hcap] at hc; rw [← hc]
    · exact h.elim
  · rename_i n cap
    split at h
    · rename_i sz he
      obtain ⟨h1, h2, h3, h4, h5⟩ := h
      obtain ⟨e, hd, hs⟩ := elt_slice (w := w) he
      have := hv.lit_inv; subst this
      have hb := run_sliceBounds (P := P) true hlo hhi h1 h2 h3 h4 h5
      exact ⟨_, by simp [Instr.sliceAt, run_underlying hd, Instr.slice, hb, hs], .lit _⟩
    · exact h.elim
  · rename_i b off
    split at h
    · rename_i len sz he
      obtain ⟨h1, h2, h3, h4, h5⟩ := h
      obtain ⟨e, hd, hs⟩ := elt_array (w := w) he
      have := hv.lit_inv; subst this
      have hb := run_sliceBounds (P := P) false hlo hhi h1 h2 h3 h4 h5
      refine ⟨_, ?_, .lit _⟩
      simp [Instr.sliceAt, run_underlying hd, Instr.sureAddr, hb, hs]
      have hc := cut_addr (cap := len) (l := (bnd 0 lo).2.toNat) (off := off) (sz := sz) (b := b)
      split <;> rename_i hcap
      · rw [if_pos hcap] at hc; rw [← hc]
      · rw [if_neg hcap] at hc; rw [← hc]
    · exact h.elim
  · exact h.elim
end
end Go.Proofs.Ytbnkmhlnoaebcaa
