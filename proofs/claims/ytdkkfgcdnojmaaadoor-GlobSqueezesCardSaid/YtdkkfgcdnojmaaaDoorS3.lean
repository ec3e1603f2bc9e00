/-
  The walks and the laws that the statement leans on, part 3.
-/
import Derived.Test.YtdkkfgcdnojmaaaDoorS2
namespace Go.Proofs.YtdkkfgcdnojmaaaDoor
open Go
set_option linter.unusedSimpArgs false
set_option linter.unusedVariables false
def bstr (zs : List Int) : ByteArray := ⟨(zs.map fun n => UInt8.ofNat n.toNat).toArray⟩
def isSliceT (P : Program) (T : TypeId) : Prop := ∃ e, P.underlying T = some (.slice e)
def bnd (d : Int) : Option AV → Prop × Int
  | none => (True, d)
  | some (.lit (.int _ i)) => (True, i)
  | some _ => (False, 0)
def shift1 (cap l off sz : Nat) : Nat := if cap = l then off else off + l * sz
def slicev (P : Program) (T : TypeId) (x : AV) (lo hi : Option AV) : Prop × AV :=
  match x with
  | .lit (.string s) => (P.underlying T = some .string ∧ (bnd 0 lo).1 ∧ (bnd s.size hi).1 ∧ 0 ≤ (bnd 0 lo).2 ∧ (bnd 0 lo).2 ≤ (bnd s.size hi).2 ∧ (bnd s.size hi).2 ≤ s.size,
      .lit (.string (s.extract (bnd 0 lo).2.toNat (bnd s.size hi).2.toNat)))
  | .slz k zs => (elt P T = some (none, 1) ∧ (bnd 0 lo).1 ∧ (bnd zs.length hi).1 ∧ 0 ≤ (bnd 0 lo).2 ∧ (bnd 0 lo).2 ≤ (bnd zs.length hi).2 ∧ (bnd zs.length hi).2 ≤ zs.length,
      .slz k ((zs.take (bnd zs.length hi).2.toNat).drop (bnd 0 lo).2.toNat))
  | .sl n cs => match elt P T with
    | some (none, sz) => (0 < sz ∧ n * sz = cs.length ∧ (bnd 0 lo).1 ∧ (bnd n hi).1 ∧ 0 ≤ (bnd 0 lo).2 ∧ (bnd 0 lo).2 ≤ (bnd n hi).2 ∧ (bnd n hi).2 ≤ n,
        .sl ((bnd n hi).2.toNat - (bnd 0 lo).2.toNat) ((cs.take ((bnd n hi).2.toNat * sz)).drop ((bnd 0 lo).2.toNat * sz)))
    | _ => (False, .any)
  | .lit (.slice (some ⟨b, off, none⟩) n cap) => match elt P T with
    | some (none, sz) => ((bnd 0 lo).1 ∧ (bnd n hi).1 ∧ 0 ≤ (bnd 0 lo).2 ∧ (bnd 0 lo).2 ≤ (bnd n hi).2 ∧ (bnd n hi).2 ≤ cap,
        ms b (shift1 cap (bnd 0 lo).2.toNat off sz) ((bnd n hi).2.toNat - (bnd 0 lo).2.toNat) (cap - (bnd 0 lo).2.toNat))
    | _ => (False, .any)
  | .lit (.slice none n cap) => match elt P T with
    | some (none, _) => ((bnd 0 lo).1 ∧ (bnd n hi).1 ∧ 0 ≤ (bnd 0 lo).2 ∧ (bnd 0 lo).2 ≤ (bnd n hi).2 ∧ (bnd n hi).2 ≤ cap,
        .lit (.slice none ((bnd n hi).2.toNat - (bnd 0 lo).2.toNat) (cap - (bnd 0 lo).2.toNat)))
    | _ => (False, .any)
  | .lit (.pointer (some ⟨b, off, none⟩)) => match elt P T with
    | some (some len, sz) => ((bnd 0 lo).1 ∧ (bnd len hi).1 ∧ 0 ≤ (bnd 0 lo).2 ∧ (bnd 0 lo).2 ≤ (bnd len hi).2 ∧ (bnd len hi).2 ≤ len,
        ms b (shift1 len (bnd 0 lo).2.toNat off sz) ((bnd len hi).2.toNat - (bnd 0 lo).2.toNat) (len - (bnd 0 lo).2.toNat))
    | _ => (False, .any)
  | _ => (False, .any)
def slice3v (P : Program) (T : TypeId) : AV → AV → AV → AV → Prop × AV
  | .lit (.slice (some ⟨b, off, none⟩) _ cap), .lit (.int _ l), .lit (.int _ h), .lit (.int _ m) => match elt P T with
    | some (none, sz) => (0 ≤ l ∧ l ≤ h ∧ h ≤ m ∧ m ≤ cap, ms b (shift1 m.toNat l.toNat off sz) (h.toNat - l.toNat) (m.toNat - l.toNat))
    | _ => (False, .any)
  | _, _, _, _ => (False, .any)
section
variable {P : Program} {w : World} {T : TypeId} {I : Nat → Prop}
def BV (w : World) (I : Nat → Prop) (v : Option Value) (x : Option AV) : Prop :=
  match v, x with
  | none, none => True
  | some v, some x => Rep w I v x
  | _, _ => False
theorem BV.cases {v : Option Value} {x : Option AV} {d : Int} (h : BV w I v x) (hb : (bnd d x).1) :
    (v = none ∧ (bnd d x).2 = d) ∨ ∃ k i, v = some (.int k i) ∧ (bnd d x).2 = i := by
  unfold BV at h
  split at h
  · exact .inl ⟨rfl, rfl⟩
  · rename_i v x
    cases x <;> simp only [bnd] at hb
    rename_i u
    have := h.lit_inv
    subst this
    cases v <;> simp only [bnd] at hb ⊢
    exact .inr ⟨_, _, rfl, rfl⟩
  · exact h.elim
theorem run_sliceBounds (isSlice : Bool) {len cap : Nat} {lo hi : Option Value} {x y : Option AV} (hlo : BV w I lo x) (hhi : BV w I hi y)
    (h1 : (bnd 0 x).1) (h2 : (bnd len y).1) (h3 : 0 ≤ (bnd 0 x).2) (h4 : (bnd 0 x).2 ≤ (bnd len y).2) (h5 : (bnd len y).2 ≤ cap) :
    (Instr.sliceBounds isSlice len cap lo hi none).run P w = .ok ((bnd 0 x).2.toNat, (bnd len y).2.toNat, cap) w := by
  rcases hlo.cases h1 with ⟨rfl, e1⟩ | ⟨k1, i1, rfl, e1⟩ <;> rcases hhi.cases h2 with ⟨rfl, e2⟩ | ⟨k2, i2, rfl, e2⟩ <;> rw [e1] at h3 h4 ⊢ <;> rw [e2] at h4 h5 ⊢
  · simp [Instr.sliceBounds]
  · have : 0 ≤ i2 := h4
    simp [Instr.sliceBounds, Instr.sliceBound, asIntOf, this, h5]
  · have h6 : i1 ≤ (len : Int) := h4
    simp [Instr.sliceBounds, Instr.sliceBound, asIntOf, h3, h6]
  · have h6 : 0 ≤ i2 := Int.le_trans h3 h4
    simp [Instr.sliceBounds, Instr.sliceBound, asIntOf, h3, h5, h6]
    intro h
    omega
theorem elt_slice {sz : Nat} (h : elt P T = some (none, sz)) : ∃ e, P.underlying T = some (.slice e) ∧ (sizeOf e).run P w = .ok sz w := by
  unfold elt at h
  split at h
  · rename_i e hd
    cases hi' : P.info? e with
    | none => rw [hi'] at h; cases h
    | some inf => rw [hi'] at h; cases h
  · rename_i e hd
    cases hi' : P.info? e with
    | none => rw [hi'] at h; cases h
    | some inf => rw [hi'] at h; cases h; exact ⟨_, hd, run_sizeOf_info hi'⟩
  · cases h
theorem elt_array {len sz : Nat} (h : elt P T = some (some len, sz)) : ∃ e, P.underlying T = some (.array len e) ∧ (sizeOf e).run P w = .ok sz w := by
  unfold elt at h
  split at h
  · rename_i e hd
    cases hi' : P.info? e with
    | none => rw [hi'] at h; cases h
    | some inf => rw [hi'] at h; cases h; exact ⟨_, hd, run_sizeOf_info hi'⟩
  · rename_i e hd
    cases hi' : P.info? e with
    | none => rw [hi'] at h; cases h
    | some inf => rw [hi'] at h; cases h
  · cases h
theorem cut_addr {cap l off sz b : Nat} : (if cap = l then (⟨b, off, none⟩ : Addr) else (⟨b, off, none⟩ : Addr).add (l * sz)) = ⟨b, shift1 cap l off sz, none⟩ := by
  unfold shift1
  split
  · rfl
  · rw [Addr.add_none]
theorem run_slice3 {v vl vh vm : Value} {x l h m : AV} (hv : Rep w I v x) (hl : Rep w I vl l) (hh : Rep w I vh h) (hm : Rep w I vm m) (hp : (slice3v P T x l h m).1) :
    ∃ r, (Instr.sliceAt T v (some vl) (some vh) (some vm)).run P w = .ok r w ∧ Rep w I r (slice3v P T x l h m).2 := by
  unfold slice3v at hp ⊢
  split at hp
  · rename_i b off n cap k1 l k2 h k3 m
    split at hp
    · rename_i sz he
      obtain ⟨h1, h2, h3, h4⟩ := hp
      obtain ⟨e, hd, hs⟩ := elt_slice (w := w) he
      have := hv.lit_inv; subst this
      have := hl.lit_inv; subst this
      have := hh.lit_inv; subst this
      have := hm.lit_inv; subst this
      refine ⟨_, ?_, .lit _⟩
      have b1 : (0 : Int) ≤ m ∧ m ≤ (cap : Int) := ⟨by omega, h4⟩
      have b2 : (0 : Int) ≤ h ∧ h ≤ (m.toNat : Int) := ⟨by omega, by omega⟩
      have b3 : (0 : Int) ≤ l ∧ l ≤ (h.toNat : Int) := ⟨h1, by omega⟩
      have hb : (Instr.sliceBounds true n cap (some (.int k1 l)) (some (.int k2 h)) (some (.int k3 m))).run P w = .ok (l.toNat, h.toNat, m.toNat) w := by
        simp only [Instr.sliceBounds, Instr.sliceBound, asIntOf, Sem.run_bind, Sem.run_pure, Result.andThen_ok, if_pos b1, if_pos b2, if_pos b3]
      simp only [Instr.sliceAt, run_underlying hd, Instr.slice, hb, hs, Sem.run_bind, Sem.run_pure, Result.andThen_ok, Option.map_some, ← cut_addr]
      split <;> rfl
    · exact hp.elim
  · exact hp.elim
theorem run_slice {v : Value} {x : AV} {vlo vhi : Option Value} {lo hi : Option AV} (hv : Rep w I v x) (hlo : BV w I vlo lo) (hhi : BV w I vhi hi) (h : (slicev P T x lo hi).1) :
    ∃ r, (Instr.sliceAt T v vlo vhi none).run P w = .ok r w ∧ Rep w I r (slicev P T x lo hi).2 := by
  unfold slicev at h ⊢
  split at h
  · rename_i s
    obtain ⟨hd, h1, h2, h3, h4, h5⟩ := h
    have := hv.lit_inv; subst this
    refine ⟨_, ?_, .lit _⟩
    simp [Instr.sliceAt, run_underlying hd, Instr.slice, run_sliceBounds (P := P) false hlo hhi h1 h2 h3 h4 h5]
  · rename_i k zs
    obtain ⟨he, h1, h2, h3, h4, h5⟩ := h
    obtain ⟨e, hd, hs⟩ := elt_slice (w := w) he
    cases hv with
    | slz a k zs cap hn hm hsp =>
      have hb := run_sliceBounds (P := P) (cap := cap) true hlo hhi h1 h2 h3 h4 (by omega)
      generalize (bnd 0 lo).2 = l at *
      generalize (bnd zs.length hi).2 = u at *
      refine ⟨.slice (if cap = l.toNat then a else a.map (·.add (l.toNat * 1))) (u.toNat - l.toNat) (cap - l.toNat), by simp [Instr.sliceAt, run_underlying hd, Instr.slice, hb, hs], ?_⟩
      have hlen : ((zs.take u.toNat).drop l.toNat).length = u.toNat - l.toNat := by simp; omega
      rw [← hlen]
      refine .slz _ _ _ _ (by rw [hlen]; omega) (by omega) ?_
      rw [hlen]
      by_cases hlu : u.toNat - l.toNat = 0
      · exact .inl hlu
      · rcases hsp with hsp | ⟨b, off, rfl, hb, hc⟩
        · omega
        · refine .inr ⟨b, off + l.toNat, by rw [if_neg (by omega)]; simp [Addr.add_none], hb, fun i hi' => ?_⟩
          have := hc (l.toNat + i) (by omega)
          rw [Nat.add_assoc, this]
          congr 2
          simp [List.getD, List.getElem?_drop, List.getElem?_take, show l.toNat + i < u.toNat by omega]
  · rename_i n cs
    split at h
    · rename_i sz he
      obtain ⟨hz, hl, h1, h2, h3, h4, h5⟩ := h
      obtain ⟨e, hd, hs⟩ := elt_slice (w := w) he
      cases hv with
      | sl a n cap cs g hn hm hsp r =>
        have hb := run_sliceBounds (P := P) (cap := cap) true hlo hhi h1 h2 h3 h4 (by omega)
        generalize (bnd 0 lo).2 = l at *
        generalize (bnd n hi).2 = u at *
        refine ⟨.slice (if cap = l.toNat then a else a.map (·.add (l.toNat * sz))) (u.toNat - l.toNat) (cap - l.toNat), by simp [Instr.sliceAt, run_underlying hd, Instr.slice, hb, hs], ?_⟩
        have hun : u.toNat * sz ≤ cs.length := by rw [← hl]; exact Nat.mul_le_mul_right _ (by omega)
        have hlen : ((cs.take (u.toNat * sz)).drop (l.toNat * sz)).length = u.toNat * sz - l.toNat * sz := by simp; omega
        refine .sl _ _ _ _ (fun i => g (l.toNat * sz + i)) (by omega) (by omega) ?_ ?_
        · rw [hlen]
          by_cases hlu : u.toNat - l.toNat = 0
          · exact .inl (by rw [← Nat.sub_mul, hlu, Nat.zero_mul])
          · have hlt : l.toNat * sz < u.toNat * sz := Nat.mul_lt_mul_of_pos_right (by omega) hz
            rcases hsp with hsp | ⟨b, off, rfl, hb, hc⟩
            · omega
            · refine .inr ⟨b, off + l.toNat * sz, by rw [if_neg (by omega)]; simp [Addr.add_none], hb, fun i hi' => ?_⟩
              have := hc (l.toNat * sz + i) (by omega)
              rw [Nat.add_assoc, this]
        · intro i hi'
          rw [hlen] at hi'
          simp only [List.getElem_drop, List.getElem_take]
          exact r _ (by omega)
    · exact h.elim
  · rename_i b off n cap
    split at h
    · rename_i sz he
      obtain ⟨h1, h2, h3, h4, h5⟩ := h
      obtain ⟨e, hd, hs⟩ := elt_slice (w := w) he
      have := hv.lit_inv; subst this
      have hb := run_sliceBounds (P := P) true hlo hhi h1 h2 h3 h4 h5
      refine ⟨_, ?_, .lit _⟩
      simp [Instr.sliceAt, run_underlying hd, Instr.slice, hb, hs]
      have hc := cut_addr (cap := cap) (l := (bnd 0 lo).2.toNat) (off := off) (sz := sz) (b := b)
      split <;> rename_i hcap
      · rw [if_pos hcap] at hc; rw [← hc]
      · rw [if_neg hcap] at hc; rw [← hc]
    · exact h.elim
  · rename_i n cap
    split at h
    · rename_i sz he
      obtain ⟨h1, h2, h3, h4, h5⟩ := h
      obtain ⟨e, hd, hs⟩ := elt_slice (w := w) he
      have := hv.lit_inv; subst this
      have hb := run_sliceBounds (P := P) true hlo hhi h1 h2 h3 h4 h5
      exact ⟨_, by simp [Instr.sliceAt, run_underlying hd, Instr.slice, hb, hs], .lit _⟩
    · exact h.elim
  · rename_i b off
    split at h
    · rename_i len sz he
      obtain ⟨h1, h2, h3, h4, h5⟩ := h
      obtain ⟨e, hd, hs⟩ := elt_array (w := w) he
      have := hv.lit_inv; subst this
      have hb := run_sliceBounds (P := P) false hlo hhi h1 h2 h3 h4 h5
      refine ⟨_, ?_, .lit _⟩
      simp [Instr.sliceAt, run_underlying hd, Instr.sureAddr, hb, hs]
      have hc := cut_addr (cap := len) (l := (bnd 0 lo).2.toNat) (off := off) (sz := sz) (b := b)
      split <;> rename_i hcap
      · rw [if_pos hcap] at hc; rw [← hc]
      · rw [if_neg hcap] at hc; rw [← hc]
    · exact h.elim
  · exact h.elim
end
end Go.Proofs.YtdkkfgcdnojmaaaDoor
namespace Go.Proofs.YtdkkfgcdnojmaaaDoor
open Go
set_option linter.unusedSimpArgs false
set_option linter.unusedVariables false
def lenv (P : Program) (T : TypeId) (x : AV) : Prop × AV :=
  match x with
  | .lit (.string s) => (P.underlying T = some .string, iv .i64 s.size)
  | .slz _ zs => (isSliceT P T, iv .i64 zs.length)
  | .sl n _ => (isSliceT P T, iv .i64 n)
  | .lit (.slice _ n _) => (isSliceT P T, iv .i64 n)
  | _ => match P.underlying T with
    | some (.array n _) => (True, iv .i64 n)
    | _ => (False, .any)
def capv (P : Program) (T : TypeId) (x : AV) : Prop × AV :=
  match x with
  | .lit (.slice _ _ c) => (isSliceT P T, iv .i64 c)
  | _ => (False, .any)
def extractv (ix : Nat) : AV → Prop × AV
  | .tup vs => (ix < vs.length, vs.getD ix .any)
  | _ => (False, .any)
def fpart (P : Program) (T : TypeId) (f : Nat) : Option (Nat × Option Nat) :=
  match P.underlying T with
  | some (.struct fs) => match fs[f]? with
    | some fl => (tyc P fl.type).map fun c => (fl.offset, c)
    | none => none
  | _ => none
def fieldv (P : Program) (T : TypeId) (f : Nat) (x : AV) : Prop × AV :=
  match x with
  | .agg cs => match fpart P T f with
    | some (off, none) => (off < cs.length, cs.getD off .any)
    | some (off, some n) => (off + n ≤ cs.length, .agg ((cs.drop off).take n))
    | none => (False, .any)
  | _ => (False, .any)
def arr1 (P : Program) (T : TypeId) : Option Nat :=
  match P.underlying T with
  | some (.array len e) => match tyc P e, P.info? e with
    | some none, some i => if i.size = 1 then some len else none
    | _, _ => none
  | _ => none
def indexv (P : Program) (T : TypeId) (x i : AV) : Prop × AV :=
  match i with
  | .lit (.int _ i) => match x with
    | .lit (.string s) => (P.underlying T = some .string ∧ 0 ≤ i ∧ i < s.size, iv .u8 ((s.data.toList.getD i.toNat 0).toNat : Int))
    | .agg cs => match arr1 P T with
      | some len => (0 ≤ i ∧ i < len ∧ i.toNat < cs.length, cs.getD i.toNat .any)
      | none => (False, .any)
    | _ => (False, .any)
  | _ => (False, .any)
def toUB (P : Program) (src : TypeId) : Bool := match P.underlying src with
  | some (.pointer t) => match P.info? t with
    | some j => j.size != 0
    | none => false
  | _ => false
def frUB (P : Program) (src u : TypeId) (sz : Nat) (ty : TypeId) (off : Nat) : Bool := match P.underlying src with
  | some .unsafePointer => (P.info? u).isSome && liesAt P P.depth ty (sz / P.cellsOf ty) off u 1
  | _ => false
def rstr (zs : List Int) : ByteArray := zs.foldl (fun r n => r ++ Utf8.encode n) ByteArray.empty
theorem run_forIn_runes {P : Program} {w : World} (f : Value → ByteArray → Sem (ForInStep ByteArray))
    (hf : ∀ (n : Int) (r : ByteArray), (f (.int .i32 n) r).run P w = .ok (.yield (r ++ Utf8.encode n)) w) :
    ∀ (ns : List Int) (s : ByteArray), (forIn (ns.map (Value.int .i32)) s f).run P w = .ok (ns.foldl (fun r n => r ++ Utf8.encode n) s) w := by
  intro ns
  induction ns with
  | nil => intro s; simp [Sem.run_pure]
  | cons n ns ih =>
    intro s
    simp only [List.map_cons, List.forIn_cons, Sem.run_bind, hf, Result.andThen, List.foldl_cons]
    exact ih _
theorem run_convert_runes {P : Program} (w : World) (src dst e : TypeId) (hs : P.underlying src = some (.slice e)) (he : P.underlying e = some (.int .i32)) (hd : P.underlying dst = some .string) (zs : List Int) (cap : Nat) (a : Option Addr)
    (hcell : zs.length = 0 ∨ ∃ b off, a = some ⟨b, off, none⟩ ∧ ∀ i, i < zs.length → w.cell? ⟨b, off + i, none⟩ = some (.int .i32 (zs.getD i 0))) :
    (convert src dst (.slice a zs.length cap)).run P w = .ok (.string (rstr zs)) w := by
  have h0 : (convert src dst (.slice a zs.length cap)).run P w = (Conv.runesToString (.slice a zs.length cap)).run P w := by
    simp [convert, run_underlying hs, run_underlying hd, run_underlying he]
  rw [h0]
  cases a with
  | none =>
    have : zs = [] := by
      rcases hcell with h | ⟨b, off, h, _⟩
      · exact List.eq_nil_of_length_eq_zero h
      · cases h
    subst this
    simp [Conv.runesToString, rstr]
  | some ad =>
    have hl : (loadCells ad zs.length).run P w = .ok (zs.map (Value.int .i32)).toArray w := by
      have := run_loadCells_list (P := P) w ad (zs.map (Value.int .i32)) (fun j v hj => by
        have hjl : j < zs.length := by
          rcases Nat.lt_or_ge j zs.length with h | h
          · exact h
          · simp [List.getElem?_eq_none (show (zs.map (Value.int .i32)).length ≤ j by simpa using h)] at hj
        rcases hcell with h | ⟨b, off, h, hc⟩
        · omega
        · obtain rfl := Option.some.inj h
          have hplain : (⟨b, off, none⟩ : Addr).add j = ⟨b, off + j, none⟩ := by unfold Addr.add; split <;> simp_all
          rw [hplain, hc j hjl]
          simp [List.getElem?_eq_getElem hjl] at hj
          subst hj
          simp [List.getD, List.getElem?_eq_getElem hjl])
      simpa using this
    unfold Conv.runesToString
    simp only [Sem.run_bind, hl, Result.andThen, List.forIn_toArray]
    rw [run_forIn_runes _ (by intro n r; simp [Sem.run_pure])]
    simp [Sem.run_pure, rstr]
def convv (P : Program) (H : Hp) (src dst : TypeId) (x : AV) : Option (Prop × AV) :=
  match P.underlying dst with
  | some (.int k) => match x with
    | .lit (.int _ n) => some ((P.underlying src).isSome = true, iv k (k.wrap n))
    | _ => some (False, .any)
  | some .string => match x with
    | .lit (.int _ n) => some ((P.underlying src).isSome = true, .lit (.string (Utf8.encode n)))
    | .lit (.string s) => some ((P.underlying src).isSome = true, .lit (.string s))
    | .slz .u8 zs => some (∃ e, P.underlying src = some (.slice e) ∧ P.underlying e = some (.int .u8), .lit (.string (bstr zs)))
    | .slz .i32 zs => some (∃ e, P.underlying src = some (.slice e) ∧ P.underlying e = some (.int .i32), .lit (.string (rstr zs)))
    | .lit (.slice (some ⟨b, off, none⟩) n _) => match hget H b with
      | some (.zs .u8 zs _ _) => some ((∃ e, P.underlying src = some (.slice e) ∧ P.underlying e = some (.int .u8)) ∧ off + n ≤ zs.length, .lit (.string (bstr ((zs.drop off).take n))))
      | _ => some (False, .any)
    | .lit (.slice none _ _) => some (∃ e, P.underlying src = some (.slice e) ∧ P.underlying e = some (.int .u8), .lit (.string ⟨#[]⟩))
    | _ => some (False, .any)
  | some .unsafePointer => match x with
    | .lit (.pointer (some ⟨b, off, none⟩)) => match hget H b with
      | some (.cells _ sz _) => some (toUB P src = true ∧ off < sz, pt b off)
      | _ => some (False, .any)
    | _ => none
  | some (.pointer u) => match x with
    | .lit (.pointer (some ⟨b, off, none⟩)) => match hget H b with
      | some (.cells _ sz ty) => some (frUB P src u sz ty off = true, pt b off)
      | _ => some (False, .any)
    | _ => none
  | _ => none
def nilv : AV → Prop × AV
  | .lit (.pointer (some a)) => (True, .lit (.pointer (some a)))
  | .ip cs => (True, .ip cs)
  | .ipz k zs => (True, .ipz k zs)
  | .ifc t x => (True, .ifc t x)
  | _ => (False, .any)
def min2v : AV → AV → Prop × AV
  | .lit (.int k x), .lit (.int _ y) => (True, iv k (if y < x then y else x))
  | _, _ => (False, .any)
def max2v : AV → AV → Prop × AV
  | .lit (.int k x), .lit (.int _ y) => (True, iv k (if x < y then y else x))
  | _, _ => (False, .any)
def mkiv (P : Program) (T : TypeId) (x : AV) : Prop × AV := (P.concrete T = true, .ifc T x)
/-! Type assertions -/
def plainT (P : Program) (T : TypeId) : Bool :=
  match P.underlying T with
  | some (.interface _) => false
  | some _ => true
  | none => false
def zval (P : Program) (T : TypeId) : Option Value := (P.info? T).bind (·.zero)
def tasz (P : Program) (T : TypeId) : Prop × AV :=
  match zval P T with
  | some z => (plainT P T = true, .tup [litv z, bv false])
  | none => (False, .any)
def tasv (P : Program) (T : TypeId) : Bool → AV → Prop × AV
  | true, .ifc t x => if t = T then (plainT P T = true, .tup [x, bv true]) else tasz P T
  | false, .ifc t x => (t = T ∧ plainT P T = true, x)
  | _, _ => (False, .any)
/-! Built values -/
def cellsA : AV → Option (List AV)
  | .agg cs => some cs
  | .any => none
  | .gd _ _ => none
  | .tup _ => none
  | .lit (.agg _) => none
  | x => some [x]
def fillA (pl : List (Nat × Nat)) : List AV → List (Nat × AV) → Option (List AV)
  | cells, [] => some cells
  | cells, (i, v) :: rest => match pl[i]?, cellsA v with
    | some (off, size), some vc => if vc.length = size ∧ off + size ≤ cells.length then fillA pl (cells.take off ++ vc ++ cells.drop (off + size)) rest else none
    | _, _ => none
def bldT (P : Program) (T : TypeId) : Option (List Value × List (Nat × Nat)) :=
  match P.info? T, P.underlying T with
  | some it, some (.array n e) => match it.zero, P.info? e with
    | some z, some ie => some (z.cells.toList, (List.range n).map fun i => (i * ie.size, ie.size))
    | _, _ => none
  | some it, some (.struct fields) => match it.zero, fields.toList.mapM (fun f => (P.info? f.type).map fun i => (f.offset, i.size)) with
    | some z, some places => some (z.cells.toList, places)
    | _, _ => none
  | _, _ => none
def buildv (P : Program) (T : TypeId) (parts : List (Nat × AV)) : Prop × AV :=
  match bldT P T with
  | some (z, pl) => match fillA pl (z.map .lit) parts with
    | some cs => (True, .agg cs)
    | none => (False, .any)
  | none => (False, .any)
section
variable {P : Program} {w : World} {T : TypeId} {I : Nat → Prop}
theorem run_len {v : Value} {x : AV} (hv : Rep w I v x) (T' : TypeId) (h : (lenv P T x).1) : ∃ r, (Builtin.len_ #[T] T' #[v]).run P w = .ok r w ∧ Rep w I r (lenv P T x).2 := by
  unfold lenv at h ⊢
  split at h
  · have := hv.lit_inv; subst this
    exact ⟨_, by simp [Builtin.len_, run_underlying h, goInt], .lit _⟩
  · obtain ⟨e, h⟩ := h
    cases hv
    exact ⟨_, by simp [Builtin.len_, run_underlying h, goInt], .lit _⟩
  · obtain ⟨e, h⟩ := h
    cases hv
    · exact ⟨_, by simp [Builtin.len_, run_underlying h, goInt], .lit _⟩
  · obtain ⟨e, h⟩ := h
    have := hv.lit_inv; subst this
    exact ⟨_, by simp [Builtin.len_, run_underlying h, goInt], .lit _⟩
  · split at h
    · rename_i hd
      exact ⟨_, by simp [Builtin.len_, run_underlying hd, goInt], .lit _⟩
    · exact h.elim
theorem run_cap {v : Value} {x : AV} (hv : Rep w I v x) (T' : TypeId) (h : (capv P T x).1) : ∃ r, (Builtin.cap_ #[T] T' #[v]).run P w = .ok r w ∧ Rep w I r (capv P T x).2 := by
  unfold capv at h ⊢
  split at h
  · obtain ⟨e, h⟩ := h
    have := hv.lit_inv; subst this
    exact ⟨_, by simp [Builtin.cap_, run_underlying h, goInt], .lit _⟩
  · exact h.elim
theorem run_extract {v : Value} {x : AV} {ix : Nat} (hv : Rep w I v x) (h : (extractv ix x).1) : ∃ r, (Instr.extract v ix).run P w = .ok r w ∧ Rep w I r (extractv ix x).2 := by
  unfold extractv at h ⊢
  split at h
  · rename_i cs
    have h : ix < cs.length := h
    cases hv with
    | tup vs cs hs r =>
      have hlt : ix < vs.size := by omega
      refine ⟨vs[ix], by simp [Instr.extract, hlt], ?_⟩
      have := r ix h
      simpa [hlt, List.getD, h] using this
  · exact h.elim
theorem run_field {v : Value} {x : AV} {f : Nat} (hv : Rep w I v x) (h : (fieldv P T f x).1) : ∃ r, (Instr.field T v f).run P w = .ok r w ∧ Rep w I r (fieldv P T f x).2 := by
  unfold fieldv at h ⊢
  split at h
  · rename_i cs
    cases hv with
    | agg vs cs hs r =>
      cases hp : fpart P T f with
      | none => rw [hp] at h; exact h.elim
      | some p =>
        obtain ⟨off, c⟩ := p
        rw [hp] at h
        have hp' := hp
        unfold fpart at hp'
        split at hp'
        · rename_i fs hd
          split at hp'
          · rename_i fl hfl
            cases hc : tyc P fl.type with
            | none => rw [hc] at hp'; cases hp'
            | some c' =>
              rw [hc] at hp'
              cases hp'
              cases c with
              | none =>
                have h : fl.offset < cs.length := h
                have hlt : fl.offset < vs.size := by omega
                refine ⟨vs[fl.offset], by simp [Instr.field, run_underlying hd, hfl, asAgg, part, run_isAgg_one hc, hlt], ?_⟩
                have := r _ h
                simpa [hlt, List.getD, h] using this
              | some n =>
                have h : fl.offset + n ≤ cs.length := h
                refine ⟨.agg (vs.extract fl.offset (fl.offset + n)), by simp [Instr.field, run_underlying hd, hfl, asAgg, part, (run_isAgg_many hc).1, (run_isAgg_many hc).2], ?_⟩
                refine .agg _ _ (by simp; omega) fun i hi => ?_
                simp only [List.length_take, List.length_drop] at hi
                have := r (fl.offset + i) (by omega)
                have hlt : fl.offset + i < vs.size := by omega
                have h2 : i < min (fl.offset + n) vs.size - fl.offset := by omega
                simp only [List.getElem_take, List.getElem_drop]
                simpa [hlt, h2] using this
          · cases hp'
        · cases hp'
  · exact h.elim
theorem run_index {v u : Value} {x i : AV} (hv : Rep w I v x) (hi : Rep w I u i) (h : (indexv P T x i).1) : ∃ r, (Instr.index T v u).run P w = .ok r w ∧ Rep w I r (indexv P T x i).2 := by
  unfold indexv at h ⊢
  split at h
  · rename_i k i
    have := hi.lit_inv; subst this
    split at h
    · rename_i s
      obtain ⟨hd, h0, h1⟩ := h
      have := hv.lit_inv; subst this
      have hlt : i.toNat < s.size := by omega
      refine ⟨.int .u8 (s[i.toNat].toNat : Int), by simp [Instr.index, asIntOf, run_underlying hd, h0, ByteArray.getElem?_lt' s _ hlt], ?_⟩
      refine Rep.of_eq ?_
      have hlt' : i.toNat < s.data.size := hlt
      simp only [List.getD, Array.getElem?_toList, Array.getElem?_eq_getElem hlt', Option.getD_some]
      rfl
    · rename_i cs
      cases hp : arr1 P T with
      | none => rw [hp] at h; exact h.elim
      | some len =>
        rw [hp] at h
        obtain ⟨h0, h1, h2⟩ := h
        unfold arr1 at hp
        split at hp
        · rename_i len' e hd
          split at hp
          · rename_i inf hc hi'
            split at hp
            · rename_i hz
              cases hp
              cases hv with
              | agg vs cs hs r =>
                have hlt : i.toNat < vs.size := by omega
                refine ⟨vs[i.toNat], by simp [Instr.index, asIntOf, run_underlying hd, h0, h1, run_sizeOf_info hi', hz, part, run_isAgg_one hc, hlt], ?_⟩
                have := r _ h2
                simpa [hlt, List.getD, h2] using this
            · cases hp
          · cases hp
        · cases hp
    · exact h.elim
  · exact h.elim
theorem run_conv {cx : Cx} {H : Hp} (hw : OkW cx H w) {v : Value} {x : AV} {src dst : TypeId} {r : Prop × AV} (hv : Rep w (imm cx w H) v x) (hr : convv P H src dst x = some r) (h : r.1) :
    ∃ u, (convert src dst v).run P w = .ok u w ∧ Rep w (imm cx w H) u r.2 := by
  unfold convv at hr
  split at hr
  · rename_i k hd
    split at hr <;> cases hr
    · have := hv.lit_inv; subst this
      obtain ⟨ds, hs⟩ := Option.isSome_iff_exists.1 h
      exact ⟨_, by simp [convert, run_underlying hd, run_underlying hs, Conv.intToInt], .lit _⟩
    · exact h.elim
  · rename_i hd
    split at hr
    · cases hr
      have := hv.lit_inv; subst this
      obtain ⟨ds, hs⟩ := Option.isSome_iff_exists.1 h
      exact ⟨_, by simp [convert, run_underlying hd, run_underlying hs, Conv.intToString], .lit _⟩
    · cases hr
      have := hv.lit_inv; subst this
      obtain ⟨ds, hs⟩ := Option.isSome_iff_exists.1 h
      exact ⟨_, by simp [convert, run_underlying hd, run_underlying hs], .lit _⟩
    · rename_i zs
      cases hr
      obtain ⟨e, hs, he⟩ := h
      cases hv with
      | slz a k _ cap hn hm hsp =>
        rcases hsp with hsp | ⟨b, off, rfl, hb, hc⟩
        · have : zs = [] := List.eq_nil_of_length_eq_zero hsp
          subst this
          cases a with
          | none => exact ⟨_, run_convert_bytes_nil w src e hs he _ _ dst hd, Rep.of_eq rfl⟩
          | some ad =>
            have := run_convert_bytes_string w src dst e (some ad) 0 cap hs he hd
            refine ⟨.string ⟨#[]⟩, ?_, Rep.of_eq rfl⟩
            rw [List.length_nil, this, run_bytesToString w ad 0 cap [] (by simp [loadCells, loadCellsFrom])]
            rfl
        · exact ⟨_, run_convert_bytes_arg w src e hs he b off zs.length cap zs rfl (fun i hi => hc i hi) dst hd, Rep.of_eq rfl⟩
    · rename_i zs
      cases hr
      obtain ⟨e, hs, he⟩ := h
      cases hv with
      | slz a k _ cap hn hm hsp =>
        refine ⟨_, run_convert_runes w src dst e hs he hd zs cap a ?_, Rep.of_eq rfl⟩
        rcases hsp with hsp | ⟨b, off, rfl, hb, hc⟩
        · exact .inl hsp
        · exact .inr ⟨b, off, rfl, fun i hi => hc i hi⟩
    · rename_i b off n cap
      split at hr
      · rename_i zs sz ty hg
        cases hr
        obtain ⟨⟨e, hs, he⟩, hlen⟩ := h
        have := hv.lit_inv; subst this
        obtain ⟨cur, h1, h2, h3, h4⟩ := hw.mem _ (hget_mem hg)
        have hl : ((zs.drop off).take n).length = n := by simp; omega
        refine ⟨_, run_convert_bytes_arg w src e hs he b off n cap ((zs.drop off).take n) hl (fun i hi => ?_) dst hd, Rep.of_eq rfl⟩
        rw [cell_of_block h1, h4 (off + i) (by omega)]
        simp [List.getD, List.getElem?_take, List.getElem?_drop, hi]
      · cases hr; exact h.elim
    · cases hr
      obtain ⟨e, hs, he⟩ := h
      have := hv.lit_inv; subst this
      exact ⟨_, run_convert_bytes_nil w src e hs he _ _ dst hd, Rep.of_eq rfl⟩
    · cases hr; exact h.elim
  · rename_i hd
    split at hr
    · rename_i b off
      split at hr
      · rename_i cs sz ty hg
        cases hr
        obtain ⟨hs, ho⟩ := h
        have := hv.lit_inv; subst this
        obtain ⟨cur, h1, h2, h3, h4⟩ := hw.mem _ (hget_mem hg)
        unfold toUB at hs
        split at hs
        · rename_i t ht
          split at hs
          · rename_i j hj
            exact ⟨_, Lib.run_to_unsafe w ⟨b, off, none⟩ ht hd hj (by simpa using hs) (show w.shape? b = some (ty, cur.size) by simp [World.shape?, h1]) (by rw [h2]; exact ho), .lit _⟩
          · cases hs
        · cases hs
      · cases hr; exact h.elim
    · cases hr
  · rename_i u hd
    split at hr
    · rename_i b off
      split at hr
      · rename_i cs sz ty hg
        cases hr
        have := hv.lit_inv; subst this
        obtain ⟨cur, h1, h2, h3, h4⟩ := hw.mem _ (hget_mem hg)
        have hs : frUB P src u sz ty off = true := h
        unfold frUB at hs
        split at hs
        · rename_i ht
          simp only [Bool.and_eq_true] at hs
          obtain ⟨j, hj⟩ := Option.isSome_iff_exists.1 hs.1
          exact ⟨_, Lib.run_from_unsafe w ⟨b, off, none⟩ ht hd hj (show w.shape? b = some (ty, cur.size) by simp [World.shape?, h1]) (by rw [h2]; exact hs.2), .lit _⟩
        · cases hs
      · cases hr; exact h.elim
    · cases hr
  · cases hr
theorem plainT_ass (h : plainT P T = true) (t xT : TypeId) (v : Value) (ok : Bool) : (Instr.typeAssert (.iface t v) xT T ok).run P w =
    (if t = T then (pure (if ok then .tuple #[v, .bool true] else v) : Sem Value) else if ok then (do pure (.tuple #[← zeroValue T, .bool false])) else runtimePanic (.typeAssertion (some xT) (some t) T "")).run P w := by
  unfold plainT at h
  cases hu : P.underlying T with
  | none => rw [hu] at h; cases h
  | some du =>
    rw [hu] at h
    unfold Instr.typeAssert
    simp only [Sem.run_bind, run_underlying hu, Result.andThen_ok]
    cases du
    case interface => cases h
    all_goals (by_cases e : t = T <;> simp [e])
theorem run_zval {z : Value} (h : zval P T = some z) : (zeroValue T).run P w = .ok z w := by
  unfold zval at h
  cases hi : P.info? T with
  | none => rw [hi] at h; cases h
  | some i =>
    rw [hi] at h
    have hz : i.zero = some z := h
    simp [zeroValue, typeInfo, program, Sem.run, hi, hz]
theorem run_tas {v : Value} {x : AV} {xT : TypeId} {ok : Bool} (hv : Rep w I v x) (h : (tasv P T ok x).1) : ∃ r, (Instr.typeAssert v xT T ok).run P w = .ok r w ∧ Rep w I r (tasv P T ok x).2 := by
  unfold tasv at h ⊢
  split at h
  · rename_i t y
    cases hv with
    | ifc _ v' _ hr =>
    by_cases e : t = T
    · simp only [if_pos e] at h ⊢
      refine ⟨.tuple #[v', .bool true], by rw [plainT_ass h, if_pos e]; simp, .tup _ _ (by simp) fun i hi => ?_⟩
      rcases (show i = 0 ∨ i = 1 by simp at hi; omega) with rfl | rfl
      · simpa using hr
      · simpa using Rep.lit _
    · simp only [if_neg e] at h ⊢
      unfold tasz at h ⊢
      split at h
      · rename_i z hz
        refine ⟨.tuple #[z, .bool false], by rw [plainT_ass h, if_neg e]; simp [run_zval hz], .tup _ _ (by simp) fun i hi => ?_⟩
        rcases (show i = 0 ∨ i = 1 by simp at hi; omega) with rfl | rfl
        · simpa using Rep.litv z
        · simpa using Rep.lit _
      · exact h.elim
  · rename_i t y
    obtain ⟨e, h⟩ := h
    cases hv with
    | ifc _ v' _ hr => exact ⟨v', by rw [plainT_ass h, if_pos e]; simp, hr⟩
  · exact h.elim
theorem run_nil {v : Value} {x : AV} (hv : Rep w I v x) (h : (nilv x).1) :
    ∃ r, (match v with
      | .pointer none | .nilIface | .nilFunc => runtimePanic .nilDeref
      | .func (.method name) first captured =>
        match (first[0]? : Option Value) with
        | some .nilIface => runtimePanic .nilDeref
        | some (.iface t w) => do
          if (← nilAhead ((← program).types.size + Made.depth) t w name) != some false then
            unsupported (.noEntry "op/nilCheck.the method's receiver behind this interface value is a nil pointer, or cannot be seen to be none, and the arguments act or may panic (ledger 612)")
          pure (.value (.func (.method name) first captured))
        | _ => pure (.value (.func (.method name) first captured))
      | x => pure (.value x) : Sem Next).run P w = .ok (.value r) w ∧ Rep w I r (nilv x).2 := by
  unfold nilv at h ⊢
  split at h
  · have := hv.lit_inv; subst this
    exact ⟨_, rfl, .lit _⟩
  · have hv' := hv
    cases hv
    exact ⟨_, rfl, hv'⟩
  · have hv' := hv
    cases hv
    exact ⟨_, rfl, hv'⟩
  · have hv' := hv
    cases hv
    exact ⟨_, rfl, hv'⟩
  · exact h.elim
theorem run_min2 {u v : Value} {x y : AV} (T' : TypeId) (ts : Array TypeId) (hu : Rep w I u x) (hv : Rep w I v y) (h : (min2v x y).1) :
    ∃ r, (Builtin.min_ ts T' #[u, v]).run P w = .ok r w ∧ Rep w I r (min2v x y).2 := by
  unfold min2v at h ⊢
  split at h
  · have := hu.lit_inv; have := hv.lit_inv; subst_vars
    exact ⟨_, by simp [Builtin.min_, Builtin.min2], .lit _⟩
  · exact h.elim
theorem run_max2 {u v : Value} {x y : AV} (T' : TypeId) (ts : Array TypeId) (hu : Rep w I u x) (hv : Rep w I v y) (h : (max2v x y).1) :
    ∃ r, (Builtin.max_ ts T' #[u, v]).run P w = .ok r w ∧ Rep w I r (max2v x y).2 := by
  unfold max2v at h ⊢
  split at h
  · have := hu.lit_inv; have := hv.lit_inv; subst_vars
    exact ⟨_, by simp [Builtin.max_, Builtin.max2], .lit _⟩
  · exact h.elim
/-! Built values -/
def RepL (w : World) (I : Nat → Prop) (vs : Array Value) (cs : List AV) : Prop := vs.size = cs.length ∧ ∀ i (hi : i < cs.length), Rep w I (vs.getD i undef) cs[i]
theorem rep_cells {v : Value} {x : AV} {cs : List AV} (hv : Rep w I v x) (h : cellsA x = some cs) : RepL w I v.cells cs := by
  unfold cellsA at h
  split at h
  · cases h
    cases hv with
    | agg vs cs hs r => exact ⟨hs, r⟩
  · cases h
  · cases h
  · cases h
  · cases h
  · rename_i h1 h2 h3 h4 h5
    cases h
    have hone : v.cells = #[v] := by
      cases hv <;> try rfl
      case any => exact absurd rfl (h2 )
      case lit => cases v <;> first | rfl | exact absurd rfl (h5 _)
      case agg => exact absurd rfl (h1 _)
      case gdt => exact absurd rfl (h3 _ _)
    rw [hone]
    refine ⟨rfl, fun i hi => ?_⟩
    have : i = 0 := by simp at hi; omega
    subst this
    exact hv
theorem foldl_set (vc : List Value) (off : Nat) : ∀ (k : Nat) (cells : Array Value), off + k + vc.length ≤ cells.size →
    ((vc.zipIdx k).foldl (fun cs (p : Value × Nat) => cs.setIfInBounds (off + p.2) p.1) cells).size = cells.size ∧
    ∀ i, ((vc.zipIdx k).foldl (fun cs (p : Value × Nat) => cs.setIfInBounds (off + p.2) p.1) cells).getD i undef =
      if off + k ≤ i ∧ i < off + k + vc.length then vc.getD (i - (off + k)) undef else cells.getD i undef := by
  induction vc with
  | nil => intro k cells _; exact ⟨rfl, fun i => by simp; intro h1 h2; omega⟩
  | cons v vc ih =>
    intro k cells h
    simp only [List.length_cons] at h
    obtain ⟨h1, h2⟩ := ih (k + 1) (cells.setIfInBounds (off + k) v) (by simp; omega)
    simp only [List.zipIdx_cons, List.foldl_cons]
    refine ⟨by rw [h1]; simp, fun i => ?_⟩
    rw [h2 i]
    by_cases hi : i = off + k
    · subst hi
      rw [if_neg (by omega), if_pos (by simp only [List.length_cons]; omega)]
      have : off + k < cells.size := by omega
      simp [this]
    · by_cases hin : off + (k + 1) ≤ i ∧ i < off + (k + 1) + vc.length
      · rw [if_pos hin, if_pos (by simp only [List.length_cons]; omega)]
        rw [show i - (off + k) = (i - (off + (k + 1))) + 1 by omega]
        simp
      · rw [if_neg hin, if_neg (by simp only [List.length_cons]; omega)]
        simp [Array.getElem?_setIfInBounds_ne (Ne.symm hi)]
theorem rep_splice {cells vc : Array Value} {cs ds : List AV} {off : Nat} (hc : RepL w I cells cs) (hv : RepL w I vc ds) (hoff : off + ds.length ≤ cs.length) :
    RepL w I (vc.zipIdx.foldl (fun cs (p : Value × Nat) => cs.setIfInBounds (off + p.2) p.1) cells) (cs.take off ++ ds ++ cs.drop (off + ds.length)) := by
  have hz : vc.zipIdx.foldl (fun cs (p : Value × Nat) => cs.setIfInBounds (off + p.2) p.1) cells = (vc.toList.zipIdx 0).foldl (fun cs (p : Value × Nat) => cs.setIfInBounds (off + p.2) p.1) cells := by
    rw [← Array.foldl_toList, Array.toList_zipIdx]
  rw [hz]
  obtain ⟨hc1, hc2⟩ := hc
  obtain ⟨hv1, hv2⟩ := hv
  obtain ⟨h1, h2⟩ := foldl_set vc.toList off 0 cells (by simp; omega)
  refine ⟨by rw [h1]; simp; omega, fun i hi => ?_⟩
  rw [h2 i]
  simp only [Nat.add_zero, Array.length_toList]
  simp only [List.length_append, List.length_take, List.length_drop] at hi
  by_cases hin : off ≤ i ∧ i < off + vc.size
  · rw [if_pos hin]
    have e1 : (cs.take off ++ ds ++ cs.drop (off + ds.length))[i] = ds[i - off] := by
      rw [List.getElem_append_left (by simp; omega), List.getElem_append_right (by simp; omega)]
      simp [show min off cs.length = off by omega]
    rw [e1]
    have := hv2 (i - off) (by omega)
    simpa [List.getD] using this
  · rw [if_neg hin]
    by_cases hlt : i < off
    · have e1 : (cs.take off ++ ds ++ cs.drop (off + ds.length))[i] = cs[i] := by
        rw [List.getElem_append_left (by simp; omega), List.getElem_append_left (by simp; omega)]
        simp
      rw [e1]
      exact hc2 i (by omega)
    · have e1 : (cs.take off ++ ds ++ cs.drop (off + ds.length))[i] = cs[i]'(by omega) := by
        rw [List.getElem_append_right (by simp; omega)]
        simp only [List.getElem_drop, List.length_append, List.length_take]
        congr 1
        omega
      rw [e1]
      exact hc2 i (by omega)
theorem rep_fill {pl : List (Nat × Nat)} {place : Nat → Option (Nat × Nat)} (hpl : ∀ i p, pl[i]? = some p → place i = some p) :
    ∀ (vparts : List (Nat × Value)) (parts : List (Nat × AV)) (cells : Array Value) (cs out : List AV), vparts.map (·.1) = parts.map (·.1) →
      (∀ i, i < parts.length → Rep w I ((vparts.map (·.2)).getD i undef) ((parts.map (·.2)).getD i .any)) → RepL w I cells cs → fillA pl cs parts = some out →
      ∃ r, Instr.fill place cells vparts = some r ∧ RepL w I r out := by
  intro vparts
  induction vparts with
  | nil =>
    intro parts cells cs out hk _ hc h
    cases parts with
    | nil => simp only [fillA] at h; cases h; exact ⟨cells, rfl, hc⟩
    | cons p r => simp at hk
  | cons vp vr ih =>
    intro parts cells cs out hk hv hc h
    cases parts with
    | nil => simp at hk
    | cons p r =>
      obtain ⟨i, v⟩ := vp
      obtain ⟨i', x⟩ := p
      simp only [List.map_cons, List.cons.injEq] at hk
      obtain ⟨rfl, hk⟩ := hk
      simp only [fillA] at h
      split at h
      · rename_i off size vc hp hx
        split at h
        · rename_i hs
          obtain ⟨hs1, hs2⟩ := hs
          have hrep : Rep w I v x := by simpa using hv 0 (by simp)
          have hcells := rep_cells hrep hx
          have hsz : v.cells.size = size := by rw [hcells.1, hs1]
          have hle : ¬ off + v.cells.size > cells.size := by rw [hsz, hc.1]; omega
          have hsp := rep_splice hc hcells (off := off) (by omega)
          rw [hs1] at hsp
          obtain ⟨res, h1, h2⟩ := ih r _ _ out hk (fun j hj => by have := hv (j + 1) (by simp; omega); simpa using this) hsp h
          refine ⟨res, ?_, h2⟩
          simp only [Instr.fill, hpl i _ hp, hsz, ne_eq, not_true_eq_false, decide_false, Bool.false_or, decide_eq_true_eq]
          rw [if_neg (by rw [← hsz]; exact hle)]
          exact h1
        · cases h
      · cases h
theorem rep_zero (z : Array Value) : RepL w I z (z.toList.map .lit) := by
  refine ⟨by simp, fun i hi => ?_⟩
  simp at hi
  simp [hi]
  exact .lit _
theorem run_buildv {parts : List (Nat × AV)} {vparts : Array (Nat × Value)} (hk : vparts.toList.map (·.1) = parts.map (·.1))
    (hv : ∀ i, i < parts.length → Rep w I ((vparts.toList.map (·.2)).getD i undef) ((parts.map (·.2)).getD i .any)) (h : (buildv P T parts).1) :
    ∃ r, (Instr.build T vparts).run P w = .ok r w ∧ Rep w I r (buildv P T parts).2 := by
  unfold buildv at h ⊢
  split at h
  · rename_i z pl hb
    split at h
    · rename_i cs hf
      simp only [hf]
      have key : ∃ r, P.built T vparts.toList = some r ∧ RepL w I r cs := by
        unfold bldT at hb
        unfold Program.built
        split at hb
        · rename_i it n e hi hd
          split at hb
          · rename_i zv ie hz hie
            cases hb
            simp only [hi, hd, hz, hie]
            exact rep_fill (fun i p hp => by simp [List.getElem?_map] at hp; obtain ⟨a, ha, rfl⟩ := hp; have := List.getElem?_range (n := n) (i := i); by_cases hin : i < n <;> simp_all) vparts.toList parts zv.cells _ cs hk hv (rep_zero _) hf
          · cases hb
        · rename_i it fields hi hd
          split at hb
          · rename_i zv places hz hp
            cases hb
            simp only [hi, hd, hz, hp]
            exact rep_fill (fun i p hp => by simpa using hp) vparts.toList parts zv.cells _ cs hk hv (rep_zero _) hf
          · cases hb
        · cases hb
      obtain ⟨r, h1, h2⟩ := key
      exact ⟨_, run_build w T vparts r h1, .agg _ _ h2.1 h2.2⟩
    · exact h.elim
  · exact h.elim
end
end Go.Proofs.YtdkkfgcdnojmaaaDoor
namespace Go.Proofs.YtdkkfgcdnojmaaaDoor
open Go
set_option linter.unusedSimpArgs false
set_option linter.unusedVariables false
def ogs (env : List (Nat × AV)) : List Operand → Prop × List AV
  | [] => (True, [])
  | x :: r => ((og env x).1 ∧ (ogs env r).1, (og env x).2 :: (ogs env r).2)
def ogo (env : List (Nat × AV)) : Option Operand → Prop × Option AV
  | none => (True, none)
  | some x => ((og env x).1, some (og env x).2)
def ogp (env : List (Nat × AV)) : List (Nat × Operand) → Prop × List (Nat × AV)
  | [] => (True, [])
  | (i, x) :: r => ((og env x).1 ∧ (ogp env r).1, (i, (og env x).2) :: (ogp env r).2)
def slv (P : Program) (T : TypeId) (x : Prop × AV) (lo hi : Prop × Option AV) : Prop × AV :=
  (x.1 ∧ lo.1 ∧ hi.1 ∧ (slicev P T x.2 lo.2 hi.2).1, (slicev P T x.2 lo.2 hi.2).2)
def bltv (P : Program) (b : Builtin) (ts : List TypeId) (xs : Prop × List AV) : Option (Prop × AV) :=
  match b with
  | .len => match ts, xs.2 with
    | _, [.lit (.map (some _))] => none
    | [T], [x] => some (xs.1 ∧ (lenv P T x).1, (lenv P T x).2)
    | _, _ => none
  | .cap => match ts, xs.2 with
    | [T], [x] => some (xs.1 ∧ (capv P T x).1, (capv P T x).2)
    | _, _ => none
  | .min => match xs.2 with
    | [x, y] => some (xs.1 ∧ (min2v x y).1, (min2v x y).2)
    | _ => none
  | .max => match xs.2 with
    | [x, y] => some (xs.1 ∧ (max2v x y).1, (max2v x y).2)
    | _ => none
  | .unsafeSliceData => match xs.2 with
    | [.lit (.slice (some ⟨b, off, none⟩) _ c)] => some (xs.1 ∧ c ≠ 0, pt b off)
    | [.lit (.slice none _ _)] => some (xs.1, .lit (.pointer none))
    | _ => none
  | .unsafeString => match ts, xs.2 with
    | [_, _], [.lit (.pointer none), .lit (.int .i64 l)] => some (xs.1 ∧ l = 0, .lit (.string .empty))
    | _, _ => none
  | _ => none
def litL : List AV → Prop × List Value
  | [] => (True, [])
  | .lit v :: r => ((litL r).1, v :: (litL r).2)
  | _ :: _ => (False, [])
def mkfv (f : FuncId) (x y : Prop × List AV) : Prop × AV := (x.1 ∧ y.1 ∧ (litL x.2).1 ∧ (litL y.2).1, .lit (.func (.func f) (litL x.2).2.toArray (litL y.2).2.toArray))
theorem litL_eq {w : World} {I : Nat → Prop} : ∀ {xs : List AV} {vs : List Value}, (litL xs).1 → vs.length = xs.length → (∀ i, i < vs.length → Rep w I (vs.getD i undef) (xs.getD i .any)) → (litL xs).2 = vs
  | [], [], _, _, _ => rfl
  | [], _ :: _, _, hl, _ => by simp at hl
  | x :: r, [], _, hl, _ => by simp at hl
  | x :: r, v :: vs, h, hl, hr => by
    cases x with
    | lit u =>
      have h0 := (hr 0 (by simp)).lit_inv
      simp at h0
      subst h0
      have := litL_eq (xs := r) (vs := vs) h (by simpa using hl) (fun i hi => by have := hr (i + 1) (by simpa using hi); simpa using this)
      show v :: (litL r).2 = _
      rw [this]
    | _ => exact h.elim
def pev (P : Program) (H : Hp) (env : List (Nat × AV)) : Op → Option (Prop × AV)
  | .move x => some (og env x)
  | .assign x => some (og env x)
  | .pick c a b => some ((og env c).1 ∧ (picka (og env c).2 (opd env a) (opd env b)).1, (picka (og env c).2 (opd env a) (opd env b)).2)
  | .binOp op T x y _ => some (both (og env x) (og env y) (binv P T op))
  | .unOp op _ x => some (one (og env x) (unv op))
  | .convert src dst x => (convv P H src dst (og env x).2).map fun r => ((og env x).1 ∧ r.1, r.2)
  | .nilCheck x => some (one (og env x) nilv)
  | .fieldAddr T x f => some (one (og env x) (faddv P T f))
  | .field T x f => some (one (og env x) (fieldv P T f))
  | .indexAddr T x i => some (both (og env x) (og env i) (idxav P T))
  | .index T x i => some (both (og env x) (og env i) (indexv P T))
  | .load T a => some (one (og env a) (loadv P H T))
  | .slice T x lo hi none => some (slv P T (og env x) (ogo env lo) (ogo env hi))
  | .slice T x (some l) (some h) (some m) => some ((og env x).1 ∧ (og env l).1 ∧ (og env h).1 ∧ (og env m).1 ∧ (slice3v P T (og env x).2 (og env l).2 (og env h).2 (og env m).2).1, (slice3v P T (og env x).2 (og env l).2 (og env h).2 (og env m).2).2)
  | .extract t ix => some (one (og env t) (extractv ix))
  | .makeInterface T x => some (one (og env x) (mkiv P T))
  | .typeAssert x _ T ok => some (one (og env x) (tasv P T ok))
  | .makeFunc (.func f) fi ca => some (mkfv f (ogs env fi.toList) (ogs env ca.toList))
  | .build T parts => some ((ogp env parts.toList).1 ∧ (buildv P T (ogp env parts.toList).2).1, (buildv P T (ogp env parts.toList).2).2)
  | .call c => match c.callee with
    | .builtin b => bltv P b c.argTypes.toList (ogs env c.args.toList)
    | _ => none
  | _ => none
section
variable {P : Program} {cx : Cx} {n : Nat} {s : St} {o : Oper} {a : Act} {w : World}
theorem rep_strip {I : Nat → Prop} {v : Value} {x : AV} (h : Rep w I v x) (hs : (strip x).1) : Rep w I v (strip x).2 := by
  cases x <;> simp only [strip] at hs ⊢ <;> first | exact h | exact h.gd_true hs
theorem Ok.og (ok : Ok cx n s a w) {x : Operand} (h : (og s.env x).1) : Rep w (imm cx w s.H) (a.eval x) (og s.env x).2 := rep_strip (ok.opd x) h
theorem Ok.ogs (ok : Ok cx n s a w) : ∀ {l : List Operand}, (ogs s.env l).1 → ∀ i, i < l.length → Rep w (imm cx w s.H) ((l.map a.eval).getD i undef) ((Proofs.YtdkkfgcdnojmaaaDoor.ogs s.env l).2.getD i .any)
  | [], _, i, hi => by simp at hi
  | x :: r, h, 0, _ => by simpa [Proofs.YtdkkfgcdnojmaaaDoor.ogs] using ok.og h.1
  | x :: r, h, i + 1, hi => by
    have := Ok.ogs ok (l := r) h.2 i (by simpa using hi)
    simpa [Proofs.YtdkkfgcdnojmaaaDoor.ogs] using this
theorem ogs_length {env : List (Nat × AV)} : ∀ (l : List Operand), (ogs env l).2.length = l.length
  | [] => rfl
  | x :: r => by simp [ogs, ogs_length r]
theorem Ok.ogo (ok : Ok cx n s a w) {x : Option Operand} (h : (ogo s.env x).1) : BV w (imm cx w s.H) (x.map a.eval) (Proofs.YtdkkfgcdnojmaaaDoor.ogo s.env x).2 := by
  cases x with
  | none => trivial
  | some x => exact ok.og h
theorem ogp_keys {env : List (Nat × AV)} : ∀ (l : List (Nat × Operand)), (ogp env l).2.map (·.1) = l.map (·.1)
  | [] => rfl
  | (i, x) :: r => by simp [ogp, ogp_keys r]
theorem Ok.ogp (ok : Ok cx n s a w) : ∀ {l : List (Nat × Operand)}, (ogp s.env l).1 → ∀ i, i < (Proofs.YtdkkfgcdnojmaaaDoor.ogp s.env l).2.length →
    Rep w (imm cx w s.H) ((l.map fun p => a.eval p.2).getD i undef) (((Proofs.YtdkkfgcdnojmaaaDoor.ogp s.env l).2.map (·.2)).getD i .any)
  | [], _, i, hi => by simp [Proofs.YtdkkfgcdnojmaaaDoor.ogp] at hi
  | (j, x) :: r, h, 0, _ => by simpa [Proofs.YtdkkfgcdnojmaaaDoor.ogp] using ok.og h.1
  | (j, x) :: r, h, i + 1, hi => by
    have := Ok.ogp ok (l := r) h.2 i (by simpa [Proofs.YtdkkfgcdnojmaaaDoor.ogp] using hi)
    simpa [Proofs.YtdkkfgcdnojmaaaDoor.ogp] using this
theorem run_bltv {c : Call} {b : Builtin} {r : Prop × AV} (ok : Ok cx n s a w) (hb : c.callee = .builtin b) (hr : bltv P b c.argTypes.toList (ogs s.env c.args.toList) = some r) (h : r.1) (ho : o.op = .call c) :
    ∃ v, (execOp a.eval o).run P w = .ok (.value v) w ∧ Rep w (imm cx w s.H) v r.2 := by
  obtain ⟨callee, args, ts⟩ := c
  obtain ⟨args⟩ := args
  obtain ⟨ts⟩ := ts
  simp only at hb hr
  subst hb
  have hlen := ogs_length (env := s.env) args
  unfold bltv at hr
  split at hr
  · split at hr
    · cases hr
    · rename_i T x _ h2
      cases hr
      rw [h2] at hlen
      match args, hlen with
      | [y], _ =>
        have hv := ok.ogs h.1 0 (by simp)
        rw [h2] at hv
        obtain ⟨u, hu, hr⟩ := run_len (P := P) hv o.type h.2
        refine ⟨u, ?_, hr⟩
        simp only [execOp, ho, resolve, invoke, builtin, List.map_toArray, List.map_cons, List.map_nil, Sem.run_bind, Sem.run_pure, Result.andThen_ok]
        simp at hu
        rw [hu]
        rfl
    · cases hr
  · split at hr
    · rename_i T x h2
      cases hr
      rw [h2] at hlen
      match args, hlen with
      | [y], _ =>
        have hv := ok.ogs h.1 0 (by simp)
        rw [h2] at hv
        obtain ⟨u, hu, hr⟩ := run_cap (P := P) hv o.type h.2
        refine ⟨u, ?_, hr⟩
        simp only [execOp, ho, resolve, invoke, builtin, List.map_toArray, List.map_cons, List.map_nil, Sem.run_bind, Sem.run_pure, Result.andThen_ok]
        simp at hu
        rw [hu]
        rfl
    · cases hr
  · split at hr
    · rename_i x y h2
      cases hr
      rw [h2] at hlen
      match args, hlen with
      | [y1, y2], _ =>
        have hv1 := ok.ogs h.1 0 (by simp)
        have hv2 := ok.ogs h.1 1 (by simp)
        rw [h2] at hv1 hv2
        obtain ⟨u, hu, hr⟩ := run_min2 (P := P) o.type ⟨ts⟩ hv1 hv2 h.2
        refine ⟨u, ?_, hr⟩
        simp only [execOp, ho, resolve, invoke, builtin, List.map_toArray, List.map_cons, List.map_nil, Sem.run_bind, Sem.run_pure, Result.andThen_ok]
        simp at hu
        rw [hu]
        rfl
    · cases hr
  · split at hr
    · rename_i x y h2
      cases hr
      rw [h2] at hlen
      match args, hlen with
      | [y1, y2], _ =>
        have hv1 := ok.ogs h.1 0 (by simp)
        have hv2 := ok.ogs h.1 1 (by simp)
        rw [h2] at hv1 hv2
        obtain ⟨u, hu, hr⟩ := run_max2 (P := P) o.type ⟨ts⟩ hv1 hv2 h.2
        refine ⟨u, ?_, hr⟩
        simp only [execOp, ho, resolve, invoke, builtin, List.map_toArray, List.map_cons, List.map_nil, Sem.run_bind, Sem.run_pure, Result.andThen_ok]
        simp at hu
        rw [hu]
        rfl
    · cases hr
  · split at hr
    · rename_i b off nn c h2
      cases hr
      rw [h2] at hlen
      match args, hlen with
      | [y], _ =>
        have hv := ok.ogs h.1 0 (by simp)
        rw [h2] at hv
        have hv := hv.lit_inv
        have hu := Lib.run_unsafeSliceData_row (P := P) w ⟨ts⟩ o.type ⟨b, off, none⟩ nn c h.2
        refine ⟨.pointer (some ⟨b, off, none⟩), ?_, .lit _⟩
        simp only [execOp, ho, resolve, invoke, builtin, List.map_toArray, List.map_cons, List.map_nil, Sem.run_bind, Sem.run_pure, Result.andThen_ok]
        simp at hv
        rw [hv, hu]
        rfl
    · cases hr
      rename_i nn c h2
      rw [h2] at hlen
      match args, hlen with
      | [y], _ =>
        have hv := ok.ogs h 0 (by simp)
        rw [h2] at hv
        have hv := hv.lit_inv
        refine ⟨.pointer none, ?_, .lit _⟩
        simp only [execOp, ho, resolve, invoke, builtin, List.map_toArray, List.map_cons, List.map_nil, Sem.run_bind, Sem.run_pure, Result.andThen_ok]
        simp at hv
        rw [hv]
        rfl
    · cases hr
  · split at hr
    · rename_i l h2
      cases hr
      rw [h2] at hlen
      match args, hlen with
      | [y, z], _ =>
        obtain ⟨hob, rfl⟩ := h
        have hv := ok.ogs hob 0 (by simp)
        have hv2 := ok.ogs hob 1 (by simp)
        rw [h2] at hv hv2
        simp at hv hv2
        have hv := hv.lit_inv
        have hv2 := hv2.lit_inv
        refine ⟨.string .empty, ?_, .lit _⟩
        simp only [execOp, ho, resolve, invoke, builtin, List.map_toArray, List.map_cons, List.map_nil, Sem.run_bind, Sem.run_pure, Result.andThen_ok]
        rw [hv, hv2]
        rfl
    · cases hr
  · cases hr
theorem pev_sound {r : Prop × AV} (h : pev P s.H s.env o.op = some r) (hob : r.1) : PE P cx n o s r.2 := by
  intro a w ok
  obtain ⟨dst, op, type, pos, after, guard⟩ := o
  simp only at h
  unfold pev at h
  split at h
  · cases h; exact ⟨_, rfl, ok.og hob⟩
  · cases h; exact ⟨_, rfl, ok.og hob⟩
  · rename_i c x y
    cases h
    obtain ⟨t, ht, hr⟩ := rep_pick (ok.og hob.1) (ok.opd x) (ok.opd y) hob.2
    refine ⟨_, ?_, hr⟩
    simp only [execOp, Sem.run_bind, ht, asBool, Sem.run_pure, Result.andThen_ok]
  · rename_i bop T x y T'
    cases h
    obtain ⟨v, hv, hr⟩ := run_binv (P := P) (T := T) (x := x) (y := y) (ok.og hob.1) (ok.og hob.2.1) hob.2.2
    refine ⟨v, ?_, hr⟩
    simp only [execOp, Sem.run_bind] at hv ⊢
    rw [hv]
    rfl
  · cases h
    obtain ⟨v, hv, hr⟩ := run_unv (P := P) (ok.og hob.1) hob.2
    refine ⟨v, ?_, hr⟩
    simp only [execOp, Sem.run_bind, hv, Result.andThen_ok, Sem.run_pure]
  · rename_i src dst' x
    cases hc : convv P s.H src dst' (og s.env x).2 with
    | none => rw [hc] at h; cases h
    | some r' =>
      rw [hc] at h
      cases h
      obtain ⟨v, hv, hr⟩ := run_conv (P := P) ok.world (ok.og hob.1) hc hob.2
      refine ⟨v, ?_, hr⟩
      simp only [execOp, Sem.run_bind, hv, Result.andThen_ok, Sem.run_pure]
  · cases h
    obtain ⟨v, hv, hr⟩ := run_nil (P := P) (ok.og hob.1) hob.2
    refine ⟨v, ?_, hr⟩
    simp only [execOp]
    exact hv
  · cases h
    obtain ⟨v, hv, hr⟩ := run_fadd (P := P) (ok.og hob.1) hob.2
    refine ⟨v, ?_, hr⟩
    simp only [execOp, Sem.run_bind, hv, Result.andThen_ok, Sem.run_pure]
  · cases h
    obtain ⟨v, hv, hr⟩ := run_field (P := P) (ok.og hob.1) hob.2
    refine ⟨v, ?_, hr⟩
    simp only [execOp, Sem.run_bind, hv, Result.andThen_ok, Sem.run_pure]
  · cases h
    obtain ⟨v, hv, hr⟩ := run_idx (P := P) (ok.og hob.1) (ok.og hob.2.1) hob.2.2
    refine ⟨v, ?_, hr⟩
    simp only [execOp, Sem.run_bind, hv, Result.andThen_ok, Sem.run_pure]
  · cases h
    obtain ⟨v, hv, hr⟩ := run_index (P := P) (ok.og hob.1) (ok.og hob.2.1) hob.2.2
    refine ⟨v, ?_, hr⟩
    simp only [execOp, Sem.run_bind, hv, Result.andThen_ok, Sem.run_pure]
  · cases h
    obtain ⟨v, hv, hr⟩ := run_load_of (P := P) ok.world (ok.og hob.1) hob.2
    refine ⟨v, ?_, hr⟩
    simp only [execOp, Sem.run_bind, hv, Result.andThen_ok, Sem.run_pure]
  · rename_i T x lo hi
    cases h
    obtain ⟨v, hv, hr⟩ := run_slice (P := P) (ok.og hob.1) (ok.ogo hob.2.1) (ok.ogo hob.2.2.1) hob.2.2.2
    refine ⟨v, ?_, hr⟩
    simp only [execOp, Sem.run_bind, Option.map_none, hv, Result.andThen_ok, Sem.run_pure]
  · cases h
    obtain ⟨v, hv, hr⟩ := run_slice3 (P := P) (w := w) (ok.og hob.1) (ok.og hob.2.1) (ok.og hob.2.2.1) (ok.og hob.2.2.2.1) hob.2.2.2.2
    refine ⟨v, ?_, hr⟩
    simp only [execOp, Sem.run_bind, Option.map_some, hv, Result.andThen_ok, Sem.run_pure]
  · cases h
    obtain ⟨v, hv, hr⟩ := run_extract (P := P) (ok.og hob.1) hob.2
    refine ⟨v, ?_, hr⟩
    simp only [execOp, Sem.run_bind, hv, Result.andThen_ok, Sem.run_pure]
  · cases h
    have := ok.og hob.1
    refine ⟨.iface _ _, ?_, .ifc _ _ _ this⟩
    simp only [execOp, Sem.run_bind, run_makeInterface w _ _ hob.2, Result.andThen_ok, Sem.run_pure]
  · rename_i x xT T ok'
    cases h
    obtain ⟨v, hv, hr⟩ := run_tas (P := P) (w := w) (xT := xT) (ok.og hob.1) hob.2
    refine ⟨v, ?_, hr⟩
    simp only [execOp, Sem.run_bind, hv, Result.andThen_ok, Sem.run_pure]
  · rename_i f fi ca
    cases h
    obtain ⟨h1, h2, h3, h4⟩ := hob
    have e1 := litL_eq (vs := fi.toList.map a.eval) h3 (by rw [ogs_length]; simp) (fun i hi => ok.ogs h1 i (by simpa using hi))
    have e2 := litL_eq (vs := ca.toList.map a.eval) h4 (by rw [ogs_length]; simp) (fun i hi => ok.ogs h2 i (by simpa using hi))
    refine ⟨.func (.func f) (fi.map a.eval) (ca.map a.eval), by simp only [execOp, Instr.makeFunc, Sem.run_bind, Sem.run_pure, Result.andThen_ok], ?_⟩
    have e3 : (fi.toList.map a.eval).toArray = fi.map a.eval := by apply Array.ext'; simp
    have e4 : (ca.toList.map a.eval).toArray = ca.map a.eval := by apply Array.ext'; simp
    refine Rep.of_eq ?_
    rw [e1, e2, e3, e4]
  · rename_i T parts
    cases h
    have hl : ((parts.map fun (p : Nat × Operand) => (p.1, a.eval p.2)).toList.map (·.2)) = parts.toList.map fun p => a.eval p.2 := by simp
    obtain ⟨v, hv, hr⟩ := run_buildv (P := P) (T := T) (vparts := parts.map fun (p : Nat × Operand) => (p.1, a.eval p.2)) (parts := (ogp s.env parts.toList).2) (by rw [ogp_keys]; simp)
      (fun i hi => by rw [hl]; exact ok.ogp hob.1 i hi) hob.2
    refine ⟨v, ?_, hr⟩
    simp only [execOp, Sem.run_bind]
    rw [hv]
    rfl
  · rename_i c
    split at h
    · rename_i b hb
      exact run_bltv ok hb h hob rfl
    · cases h
  · cases h
end
/-! ## Memory changes -/
section
variable {P : Program} {cx : Cx} {w : World} {H : Hp}
theorem keys_lt (h : OkW cx H w) : ∀ x ∈ H, x.1 < w.heap.size := fun x hx => (h.mem x hx).lt
theorem OkW.push (h : OkW cx H w) {w' : World} {ob : Obj} {m : MB} (hh : w'.heap = w.heap.push ob) (ho : w'.os = w.os) (ht : w'.tape = w.tape) (hp : w'.output = w.output)
    (hm : MOk w' (imm cx w' ((w.heap.size, m) :: H)) w.heap.size m) : OkW cx ((w.heap.size, m) :: H) w' ∧
      ∀ b, imm cx w H b → imm cx w' ((w.heap.size, m) :: H) b ∧ w'.heap[b]? = w.heap[b]? := by
  have hsz : w'.heap.size = w.heap.size + 1 := by rw [hh]; simp
  have hold : ∀ b, b < w.heap.size → w'.heap[b]? = w.heap[b]? := fun b hb => by rw [hh, Array.getElem?_push, if_neg (by omega)]
  have hI : ∀ b, imm cx w H b → imm cx w' ((w.heap.size, m) :: H) b ∧ w'.heap[b]? = w.heap[b]? := by
    intro b hb
    have hlt := imm_lt h.ext.size hb
    refine ⟨?_, hold b hlt⟩
    rcases hb with hb | ⟨h1, h2, h3⟩
    · exact .inl hb
    · refine .inr ⟨h1, by omega, fun x hx => ?_⟩
      rcases List.mem_cons.1 hx with rfl | hx
      · simp only; omega
      · exact h3 x hx
  refine ⟨⟨?_, ?_, ?_, ?_, fun x hx hT => ?_⟩, hI⟩
  · rw [List.map_cons, List.nodup_cons]
    refine ⟨fun hmem => ?_, h.nodup⟩
    obtain ⟨x, hx, he⟩ := List.mem_map.1 hmem
    have := keys_lt h x hx
    omega
  · intro x hx
    rcases List.mem_cons.1 hx with rfl | hx
    · exact .inr h.ext.size
    · exact h.keys x hx
  · intro x hx
    rcases List.mem_cons.1 hx with rfl | hx
    · exact hm
    · exact (h.mem x hx).mono hI (hold _ (keys_lt h x hx))
  · exact ⟨ho.trans h.ext.os, ht.trans h.ext.tape, hp.trans h.ext.output, by have := h.ext.size; omega, fun b hb hk => (hold b (by have := h.ext.size; omega)).trans (h.ext.blk b hb hk)⟩
  · rcases List.mem_cons.1 hx with rfl | hx
    · have := cx.hT _ hT
      have := h.ext.size
      simp only at *; omega
    · exact h.ro x hx hT
def hset : Hp → Nat → MB → Hp
  | [], _, _ => []
  | (b', m') :: r, b, m => if b = b' then (b', m) :: r else (b', m') :: hset r b m
theorem hset_keys (b : Nat) (m : MB) : ∀ H : Hp, (hset H b m).map (·.1) = H.map (·.1)
  | [] => rfl
  | (b', m') :: r => by
    simp only [hset]
    split
    · rfl
    · simp [hset_keys b m r]
theorem hset_mem {b : Nat} {m : MB} : ∀ {H : Hp}, (H.map (·.1)).Nodup → ∀ x ∈ hset H b m, (x = (b, m)) ∨ (x ∈ H ∧ x.1 ≠ b)
  | [], _, x, hx => by cases hx
  | (b', m') :: r, hn, x, hx => by
    simp only [List.map_cons, List.nodup_cons] at hn
    simp only [hset] at hx
    split at hx
    · rename_i he
      subst he
      rcases List.mem_cons.1 hx with rfl | hx
      · exact .inl rfl
      · exact .inr ⟨List.mem_cons_of_mem _ hx, fun he => hn.1 (List.mem_map.2 ⟨x, hx, he⟩)⟩
    · rename_i he
      rcases List.mem_cons.1 hx with rfl | hx
      · exact .inr ⟨List.mem_cons_self .., fun h => he h.symm⟩
      · rcases hset_mem hn.2 x hx with h | h
        · exact .inl h
        · exact .inr ⟨List.mem_cons_of_mem _ h.1, h.2⟩
theorem imm_keys {w w' : World} {H H' : Hp} (hk : H'.map (·.1) = H.map (·.1)) (hs : w.heap.size = w'.heap.size) {b : Nat} (h : imm cx w H b) : imm cx w' H' b := by
  rcases h with h | ⟨h1, h2, h3⟩
  · exact .inl h
  · refine .inr ⟨h1, by omega, fun x hx => ?_⟩
    have : x.1 ∈ H.map (·.1) := by rw [← hk]; exact List.mem_map_of_mem hx
    obtain ⟨y, hy, he⟩ := List.mem_map.1 this
    rw [← he]
    exact h3 y hy
theorem ro_hset {T : List Nat} {b : Nat} {m : MB} {H : Hp} (hn : (H.map (·.1)).Nodup) (hr : ∀ x ∈ H, x.1 ∈ T → isRo x.2 = true) (hb : (b, m) ∈ H) (m' : MB) (hm : isRo m = false := by rfl) : ∀ x ∈ hset H b m', x.1 ∈ T → isRo x.2 = true := fun x hx hT => by
  rcases hset_mem hn x hx with rfl | hx
  · have := hr (b, m) hb hT
    simp only [hm] at this; cases this
  · exact hr x hx.1 hT
theorem OkW.write (h : OkW cx H w) {w' : World} {b : Nat} {m m' : MB} (hb : (b, m) ∈ H) (hsz : w'.heap.size = w.heap.size) (ho : w'.os = w.os) (ht : w'.tape = w.tape) (hp : w'.output = w.output)
    (hold : ∀ k, k ≠ b → w'.heap[k]? = w.heap[k]?) (hm : MOk w' (imm cx w' (hset H b m')) b m') (hnr : isRo m = false := by rfl) : OkW cx (hset H b m') w' ∧
      ∀ k, imm cx w H k → imm cx w' (hset H b m') k ∧ w'.heap[k]? = w.heap[k]? := by
  have hI : ∀ k, imm cx w H k → imm cx w' (hset H b m') k ∧ w'.heap[k]? = w.heap[k]? := by
    intro k hk
    refine ⟨imm_keys (hset_keys _ _ _) hsz.symm hk, hold k fun he => ?_⟩
    exact imm_key h.keys h.ro hk (b, m) hb hnr he.symm
  refine ⟨⟨by rw [hset_keys]; exact h.nodup, fun x hx => ?_, fun x hx => ?_, ?_, fun x hx hT => ?_⟩, hI⟩
  · rcases hset_mem h.nodup x hx with rfl | hx
    · exact h.keys (b, m) hb
    · exact h.keys x hx.1
  · rcases hset_mem h.nodup x hx with rfl | hx
    · exact hm
    · exact (h.mem x hx.1).mono hI (hold _ hx.2)
  · refine ⟨ho.trans h.ext.os, ht.trans h.ext.tape, hp.trans h.ext.output, by have := h.ext.size; omega, fun k hk hK => ?_⟩
    rw [hold k fun he => ?_]
    · exact h.ext.blk k hk hK
    · subst he
      rcases h.keys (k, m) hb with h1 | h1
      · rcases hK with hK | hK
        · exact hK h1
        · have := h.ro (k, m) hb hK
          simp only [hnr] at this; cases this
      · simp only at h1; omega
  · rcases hset_mem h.nodup x hx with rfl | hx
    · have := h.ro (b, m) hb hT
      simp only [hnr] at this; cases this
    · exact h.ro x hx.1 hT
end
end Go.Proofs.YtdkkfgcdnojmaaaDoor
