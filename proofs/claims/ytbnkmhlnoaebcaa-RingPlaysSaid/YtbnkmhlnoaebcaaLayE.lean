/-
  Lengths, parts, conversions, built values; then every operation that leaves memory as it is in one function, with its law.
-/
import Derived.Test.YtbnkmhlnoaebcaaLayD
namespace Go.Proofs.Ytbnkmhlnoaebcaa
open Go
set_option linter.unusedSimpArgs false
set_option linter.unusedVariables false

def lenv (P : Program) (T : TypeId) (x : AV) : Prop × AV :=
  match x with
  | .lit (.string s) => (P.underlying T = some .string, iv .i64 s.size)
  | .slz _ zs => (isSliceT P T, iv .i64 zs.length)
  | .sl n _ => (isSliceT P T, iv .i64 n)
  | .lit (.slice _ n _) => (isSliceT P T, iv .i64 n)
  | _ => match P.underlying T with
    | some (.array n _) => (True, iv .i64 n)
    | _ => (False, .any)

def extractv (ix : Nat) : AV → Prop × AV
  | .tup vs => (ix < vs.length, vs.getD ix .any)
  | _ => (False, .any)

/-- Where a field lies in a struct's cells, and whether it is one cell (none) or so many. -/
def fpart (P : Program) (T : TypeId) (f : Nat) : Option (Nat × Option Nat) :=
  match P.underlying T with
  | some (.struct fs) => match fs[f]? with
    | some fl => (tyc P fl.type).map fun c => (fl.offset, c)
    | none => none
  | _ => none

def fieldv (P : Program) (T : TypeId) (f : Nat) (x : AV) : Prop × AV :=
  match x with
  | .agg cs => match fpart P T f with
    | some (off, none) => (off < cs.length, cs.getD off .any)
    | some (off, some n) => (off + n ≤ cs.length, .agg ((cs.drop off).take n))
    | none => (False, .any)
  | _ => (False, .any)

/-- An array of elements of one cell each. -/
def arr1 (P : Program) (T : TypeId) : Option Nat :=
  match P.underlying T with
  | some (.array len e) => match tyc P e, P.info? e with
    | some none, some i => if i.size = 1 then some len else none
    | _, _ => none
  | _ => none

def indexv (P : Program) (T : TypeId) (x i : AV) : Prop × AV :=
  match i with
  | .lit (.int _ i) => match x with
    | .lit (.string s) => (P.underlying T = some .string ∧ 0 ≤ i ∧ i < s.size, iv .u8 ((s.data.toList.getD i.toNat 0).toNat : Int))
    | .agg cs => match arr1 P T with
      | some len => (0 ≤ i ∧ i < len ∧ i.toNat < cs.length, cs.getD i.toNat .any)
      | none => (False, .any)
    | _ => (False, .any)
  | _ => (False, .any)

def convv (P : Program) (H : Hp) (src dst : TypeId) (x : AV) : Option (Prop × AV) :=
  match P.underlying dst with
  | some (.int k) => match x with
    | .lit (.int _ n) => some ((P.underlying src).isSome = true, iv k (k.wrap n))
    | _ => some (False, .any)
  | some .string => match x with
    | .lit (.int _ n) => some ((P.underlying src).isSome = true, .lit (.string (Utf8.encode n)))
    | .lit (.string s) => some ((P.underlying src).isSome = true, .lit (.string s))
    | .slz .u8 zs => some (∃ e, P.underlying src = some (.slice e) ∧ P.underlying e = some (.int .u8), .lit (.string (bstr zs)))
    | .lit (.slice (some ⟨b, off, none⟩) n _) => match hget H b with
      | some (.zs .u8 zs _ _) => some ((∃ e, P.underlying src = some (.slice e) ∧ P.underlying e = some (.int .u8)) ∧ off + n ≤ zs.length, .lit (.string (bstr ((zs.drop off).take n))))
      | _ => some (False, .any)
    | .lit (.slice none _ _) => some (∃ e, P.underlying src = some (.slice e) ∧ P.underlying e = some (.int .u8), .lit (.string ⟨#[]⟩))
    | _ => some (False, .any)
  | _ => none

def nilv : AV → Prop × AV
  | .lit (.pointer (some a)) => (True, .lit (.pointer (some a)))
  | .ip cs => (True, .ip cs)
  | .ipz k zs => (True, .ipz k zs)
  | .ifc t x => (True, .ifc t x)
  | _ => (False, .any)

def min2v : AV → AV → Prop × AV
  | .lit (.int k x), .lit (.int _ y) => (True, iv k (if y < x then y else x))
  | _, _ => (False, .any)
def max2v : AV → AV → Prop × AV
  | .lit (.int k x), .lit (.int _ y) => (True, iv k (if x < y then y else x))
  | _, _ => (False, .any)

def mkiv (P : Program) (T : TypeId) (x : AV) : Prop × AV := (P.concrete T = true, .ifc T x)

/-! Built values -/

def cellsA : AV → Option (List AV)
  | .agg cs => some cs
  | .any => none
  | .gd _ _ => none
  | .tup _ => none
  | .lit (.agg _) => none
  | x => some [x]

def fillA (pl : List (Nat × Nat)) : List AV → List (Nat × AV) → Option (List AV)
  | cells, [] => some cells
  | cells, (i, v) :: rest => match pl[i]?, cellsA v with
    | some (off, size), some vc => if vc.length = size ∧ off + size ≤ cells.length then fillA pl (cells.take off ++ vc ++ cells.drop (off + size)) rest else none
    | _, _ => none

def bldT (P : Program) (T : TypeId) : Option (List Value × List (Nat × Nat)) :=
  match P.info? T, P.underlying T with
  | some it, some (.array n e) => match it.zero, P.info? e with
    | some z, some ie => some (z.cells.toList, (List.range n).map fun i => (i * ie.size, ie.size))
    | _, _ => none
  | some it, some (.struct fields) => match it.zero, fields.toList.mapM (fun f => (P.info? f.type).map fun i => (f.offset, i.size)) with
    | some z, some places => some (z.cells.toList, places)
    | _, _ => none
  | _, _ => none

def buildv (P : Program) (T : TypeId) (parts : List (Nat × AV)) : Prop × AV :=
  match bldT P T with
  | some (z, pl) => match fillA pl (z.map .lit) parts with
    | some cs => (True, .agg cs)
    | none => (False, .any)
  | none => (False, .any)

section
variable {P : Program} {w : World} {T : TypeId} {I : Nat → Prop}

theorem run_len {v : Value} {x : AV} (hv : Rep w I v x) (T' : TypeId) (h : (lenv P T x).1) : ∃ r, (Builtin.len_ #[T] T' #[v]).run P w = .ok r w ∧ Rep w I r (lenv P T x).2 := by
  unfold lenv at h ⊢
  split at h
  · have := hv.lit_inv; subst this
    exact ⟨_, by simp [Builtin.len_, run_underlying h, goInt], .lit _⟩
  · obtain ⟨e, h⟩ := h
    cases hv
    exact ⟨_, by simp [Builtin.len_, run_underlying h, goInt], .lit _⟩
  · obtain ⟨e, h⟩ := h
    cases hv
    · exact ⟨_, by simp [Builtin.len_, run_underlying h, goInt], .lit _⟩
  · obtain ⟨e, h⟩ := h
    have := hv.lit_inv; subst this
    exact ⟨_, by simp [Builtin.len_, run_underlying h, goInt], .lit _⟩
  · split at h
    · rename_i hd
      exact ⟨_, by simp [Builtin.len_, run_underlying hd, goInt], .lit _⟩
    · exact h.elim

theorem run_extract {v : Value} {x : AV} {ix : Nat} (hv : Rep w I v x) (h : (extractv ix x).1) : ∃ r, (Instr.extract v ix).run P w = .ok r w ∧ Rep w I r (extractv ix x).2 := by
  unfold extractv at h ⊢
  split at h
  · rename_i cs
    have h : ix < cs.length := h
    cases hv with
    | tup vs cs hs r =>
      have hlt : ix < vs.size := by omega
      refine ⟨vs[ix], by simp [Instr.extract, hlt], ?_⟩
      have := r ix h
      simpa [hlt, List.getD, h] using this
  · exact h.elim

theorem run_field {v : Value} {x : AV} {f : Nat} (hv : Rep w I v x) (h : (fieldv P T f x).1) : ∃ r, (Instr.field T v f).run P w = .ok r w ∧ Rep w I r (fieldv P T f x).2 := by
  unfold fieldv at h ⊢
  split at h
  · rename_i cs
    cases hv with
    | agg vs cs hs r =>
      cases hp : fpart P T f with
      | none => rw [hp] at h; exact h.elim
      | some p =>
        obtain ⟨off, c⟩ := p
        rw [hp] at h
        have hp' := hp
        unfold fpart at hp'
        split at hp'
        · rename_i fs hd
          split at hp'
          · rename_i fl hfl
            cases hc : tyc P fl.type with
            | none => rw [hc] at hp'; cases hp'
            | some c' =>
              rw [hc] at hp'
              cases hp'
              cases c with
              | none =>
                have h : fl.offset < cs.length := h
                have hlt : fl.offset < vs.size := by omega
                refine ⟨vs[fl.offset], by simp [Instr.field, run_underlying hd, hfl, asAgg, part, run_isAgg_one hc, hlt], ?_⟩
                have := r _ h
                simpa [hlt, List.getD, h] using this
              | some n =>
                have h : fl.offset + n ≤ cs.length := h
                refine ⟨.agg (vs.extract fl.offset (fl.offset + n)), by simp [Instr.field, run_underlying hd, hfl, asAgg, part, (run_isAgg_many hc).1, (run_isAgg_many hc).2], ?_⟩
                refine .agg _ _ (by simp; omega) fun i hi => ?_
                simp only [List.length_take, List.length_drop] at hi
                have := r (fl.offset + i) (by omega)
                have hlt : fl.offset + i < vs.size := by omega
                have h2 : i < min (fl.offset + n) vs.size - fl.offset := by omega
                simp only [List.getElem_take, List.getElem_drop]
                simpa [hlt, h2] using this
          · cases hp'
        · cases hp'
  · exact h.elim

theorem run_index {v u : Value} {x i : AV} (hv : Rep w I v x) (hi : Rep w I u i) (h : (indexv P T x i).1) : ∃ r, (Instr.index T v u).run P w = .ok r w ∧ Rep w I r (indexv P T x i).2 := by
  unfold indexv at h ⊢
  split at h
  · rename_i k i
    have := hi.lit_inv; subst this
    split at h
    · rename_i s
      obtain ⟨hd, h0, h1⟩ := h
      have := hv.lit_inv; subst this
      have hlt : i.toNat < s.size := by omega
      refine ⟨.int .u8 (s[i.toNat].toNat : Int), by simp [Instr.index, asIntOf, run_underlying hd, h0, ByteArray.getElem?_lt' s _ hlt], ?_⟩
      refine Rep.of_eq ?_
      have hlt' : i.toNat < s.data.size := hlt
      simp only [List.getD, Array.getElem?_toList, Array.getElem?_eq_getElem hlt', Option.getD_some]
      rfl
    · rename_i cs
      cases hp : arr1 P T with
      | none => rw [hp] at h; exact h.elim
      | some len =>
        rw [hp] at h
        obtain ⟨h0, h1, h2⟩ := h
        unfold arr1 at hp
        split at hp
        · rename_i len' e hd
          split at hp
          · rename_i inf hc hi'
            split at hp
            · rename_i hz
              cases hp
              cases hv with
              | agg vs cs hs r =>
                have hlt : i.toNat < vs.size := by omega
                refine ⟨vs[i.toNat], by simp [Instr.index, asIntOf, run_underlying hd, h0, h1, run_sizeOf_info hi', hz, part, run_isAgg_one hc, hlt], ?_⟩
                have := r _ h2
                simpa [hlt, List.getD, h2] using this
            · cases hp
          · cases hp
        · cases hp
    · exact h.elim
  · exact h.elim

theorem run_conv {cx : Cx} {H : Hp} (hw : OkW cx H w) {v : Value} {x : AV} {src dst : TypeId} {r : Prop × AV} (hv : Rep w (imm cx w H) v x) (hr : convv P H src dst x = some r) (h : r.1) :
    ∃ u, (convert src dst v).run P w = .ok u w ∧ Rep w (imm cx w H) u r.2 := by
  unfold convv at hr
  split at hr
  · rename_i k hd
    split at hr <;> cases hr
    · have := hv.lit_inv; subst this
      obtain ⟨ds, hs⟩ := Option.isSome_iff_exists.1 h
      exact ⟨_, by simp [convert, run_underlying hd, run_underlying hs, Conv.intToInt], .lit _⟩
    · exact h.elim
  · rename_i hd
    split at hr
    · cases hr
      have := hv.lit_inv; subst this
      obtain ⟨ds, hs⟩ := Option.isSome_iff_exists.1 h
      exact ⟨_, by simp [convert, run_underlying hd, run_underlying hs, Conv.intToString], .lit _⟩
    · cases hr
      have := hv.lit_inv; subst this
      obtain ⟨ds, hs⟩ := Option.isSome_iff_exists.1 h
      exact ⟨_, by simp [convert, run_underlying hd, run_underlying hs], .lit _⟩
    · rename_i zs
      cases hr
      obtain ⟨e, hs, he⟩ := h
      cases hv with
      | slz a k _ cap hn hm hsp =>
        rcases hsp with hsp | ⟨b, off, rfl, hb, hc⟩
        · have : zs = [] := List.eq_nil_of_length_eq_zero hsp
          subst this
          cases a with
          | none => exact ⟨_, run_convert_bytes_nil w src e hs he _ _ dst hd, Rep.of_eq rfl⟩
          | some ad =>
            have := run_convert_bytes_string w src dst e (some ad) 0 cap hs he hd
            refine ⟨.string ⟨#[]⟩, ?_, Rep.of_eq rfl⟩
            rw [List.length_nil, this, run_bytesToString w ad 0 cap [] (by simp [loadCells, loadCellsFrom])]
            rfl
        · exact ⟨_, run_convert_bytes_arg w src e hs he b off zs.length cap zs rfl (fun i hi => hc i hi) dst hd, Rep.of_eq rfl⟩
    · rename_i b off n cap
      split at hr
      · rename_i zs sz ty hg
        cases hr
        obtain ⟨⟨e, hs, he⟩, hlen⟩ := h
        have := hv.lit_inv; subst this
        obtain ⟨cur, h1, h2, h3, h4⟩ := hw.mem _ (hget_mem hg)
        have hl : ((zs.drop off).take n).length = n := by simp; omega
        refine ⟨_, run_convert_bytes_arg w src e hs he b off n cap ((zs.drop off).take n) hl (fun i hi => ?_) dst hd, Rep.of_eq rfl⟩
        rw [cell_of_block h1, h4 (off + i) (by omega)]
        simp [List.getD, List.getElem?_take, List.getElem?_drop, hi]
      · cases hr; exact h.elim
    · cases hr
      obtain ⟨e, hs, he⟩ := h
      have := hv.lit_inv; subst this
      exact ⟨_, run_convert_bytes_nil w src e hs he _ _ dst hd, Rep.of_eq rfl⟩
    · cases hr; exact h.elim
  · cases hr

theorem run_nil {v : Value} {x : AV} (hv : Rep w I v x) (h : (nilv x).1) :
    ∃ r, (match v with
      | .pointer none | .nilIface | .nilFunc => runtimePanic .nilDeref
      | .func (.method name) first captured =>
        match (first[0]? : Option Value) with
        | some .nilIface => runtimePanic .nilDeref
        | some (.iface t w) => do
          if (← nilAhead ((← program).types.size + Made.depth) t w name) != some false then
            unsupported (.noEntry "op/nilCheck.the method's receiver behind this interface value is a nil pointer, or cannot be seen to be none, and the arguments act or may panic (ledger 612)")
          pure (.value (.func (.method name) first captured))
        | _ => pure (.value (.func (.method name) first captured))
      | x => pure (.value x) : Sem Next).run P w = .ok (.value r) w ∧ Rep w I r (nilv x).2 := by
  unfold nilv at h ⊢
  split at h
  · have := hv.lit_inv; subst this
    exact ⟨_, rfl, .lit _⟩
  · have hv' := hv
    cases hv
    exact ⟨_, rfl, hv'⟩
  · have hv' := hv
    cases hv
    exact ⟨_, rfl, hv'⟩
  · have hv' := hv
    cases hv
    exact ⟨_, rfl, hv'⟩
  · exact h.elim

theorem run_min2 {u v : Value} {x y : AV} (T' : TypeId) (ts : Array TypeId) (hu : Rep w I u x) (hv : Rep w I v y) (h : (min2v x y).1) :
    ∃ r, (Builtin.min_ ts T' #[u, v]).run P w = .ok r w ∧ Rep w I r (min2v x y).2 := by
  unfold min2v at h ⊢
  split at h
  · have := hu.lit_inv; have := hv.lit_inv; subst_vars
    exact ⟨_, by simp [Builtin.min_, Builtin.min2], .lit _⟩
  · exact h.elim

theorem run_max2 {u v : Value} {x y : AV} (T' : TypeId) (ts : Array TypeId) (hu : Rep w I u x) (hv : Rep w I v y) (h : (max2v x y).1) :
    ∃ r, (Builtin.max_ ts T' #[u, v]).run P w = .ok r w ∧ Rep w I r (max2v x y).2 := by
  unfold max2v at h ⊢
  split at h
  · have := hu.lit_inv; have := hv.lit_inv; subst_vars
    exact ⟨_, by simp [Builtin.max_, Builtin.max2], .lit _⟩
  · exact h.elim

/-! Built values -/

def RepL (w : World) (I : Nat → Prop) (vs : Array Value) (cs : List AV) : Prop := vs.size = cs.length ∧ ∀ i (hi : i < cs.length), Rep w I (vs.getD i undef) cs[i]

theorem rep_cells {v : Value} {x : AV} {cs : List AV} (hv : Rep w I v x) (h : cellsA x = some cs) : RepL w I v.cells cs := by
  unfold cellsA at h
  split at h
  · cases h
    cases hv with
    | agg vs cs hs r => exact ⟨hs, r⟩
  · cases h
  · cases h
  · cases h
  · cases h
  · rename_i h1 h2 h3 h4 h5
    cases h
    have hone : v.cells = #[v] := by
      cases hv <;> try rfl
      case any => exact absurd rfl (h2 )
      case lit => cases v <;> first | rfl | exact absurd rfl (h5 _)
      case agg => exact absurd rfl (h1 _)
      case gdt => exact absurd rfl (h3 _ _)
    rw [hone]
    refine ⟨rfl, fun i hi => ?_⟩
    have : i = 0 := by simp at hi; omega
    subst this
    exact hv

theorem foldl_set (vc : List Value) (off : Nat) : ∀ (k : Nat) (cells : Array Value), off + k + vc.length ≤ cells.size →
    ((vc.zipIdx k).foldl (fun cs (p : Value × Nat) => cs.setIfInBounds (off + p.2) p.1) cells).size = cells.size ∧
    ∀ i, ((vc.zipIdx k).foldl (fun cs (p : Value × Nat) => cs.setIfInBounds (off + p.2) p.1) cells).getD i undef =
      if off + k ≤ i ∧ i < off + k + vc.length then vc.getD (i - (off + k)) undef else cells.getD i undef := by
  induction vc with
  | nil => intro k cells _; exact ⟨rfl, fun i => by simp; intro h1 h2; omega⟩
  | cons v vc ih =>
    intro k cells h
    simp only [List.length_cons] at h
    obtain ⟨h1, h2⟩ := ih (k + 1) (cells.setIfInBounds (off + k) v) (by simp; omega)
    simp only [List.zipIdx_cons, List.foldl_cons]
    refine ⟨by rw [h1]; simp, fun i => ?_⟩
    rw [h2 i]
    by_cases hi : i = off + k
    · subst hi
      rw [if_neg (by omega), if_pos (by simp only [List.length_cons]; omega)]
      have : off + k < cells.size := by omega
      simp [this]
    · by_cases hin : off + (k + 1) ≤ i ∧ i < off + (k + 1) + vc.length
      · rw [if_pos hin, if_pos (by simp only [List.length_cons]; omega)]
        rw [show i - (off + k) = (i - (off + (k + 1))) + 1 by omega]
        simp
      · rw [if_neg hin, if_neg (by simp only [List.length_cons]; omega)]
        simp [Array.getElem?_setIfInBounds_ne (Ne.symm hi)]

theorem rep_splice {cells vc : Array Value} {cs ds : List AV} {off : Nat} (hc : RepL w I cells cs) (hv : RepL w I vc ds) (hoff : off + ds.length ≤ cs.length) :
    RepL w I (vc.zipIdx.foldl (fun cs (p : Value × Nat) => cs.setIfInBounds (off + p.2) p.1) cells) (cs.take off ++ ds ++ cs.drop (off + ds.length)) := by
  have hz : vc.zipIdx.foldl (fun cs (p : Value × Nat) => cs.setIfInBounds (off + p.2) p.1) cells = (vc.toList.zipIdx 0).foldl (fun cs (p : Value × Nat) => cs.setIfInBounds (off + p.2) p.1) cells := by
    rw [← Array.foldl_toList, Array.toList_zipIdx]
  rw [hz]
  obtain ⟨hc1, hc2⟩ := hc
  obtain ⟨hv1, hv2⟩ := hv
  obtain ⟨h1, h2⟩ := foldl_set vc.toList off 0 cells (by simp; omega)
  refine ⟨by rw [h1]; simp; omega, fun i hi => ?_⟩
  rw [h2 i]
  simp only [Nat.add_zero, Array.length_toList]
  simp only [List.length_append, List.length_take, List.length_drop] at hi
  by_cases hin : off ≤ i ∧ i < off + vc.size
  · rw [if_pos hin]
    have e1 : (cs.take off ++ ds ++ cs.drop (off + ds.length))[i] = ds[i - off] := by
      rw [List.getElem_append_left (by simp; omega), List.getElem_append_right (by simp; omega)]
      simp [show min off cs.length = off by omega]
    rw [e1]
    have := hv2 (i - off) (by omega)
    simpa [List.getD] using this
  · rw [if_neg hin]
    by_cases hlt : i < off
    · have e1 : (cs.take off ++ ds ++ cs.drop (off + ds.length))[i] = cs[i] := by
        rw [List.getElem_append_left (by simp; omega), List.getElem_append_left (by simp; omega)]
        simp
      rw [e1]
      exact hc2 i (by omega)
    · have e1 : (cs.take off ++ ds ++ cs.drop (off + ds.length))[i] = cs[i]'(by omega) := by
        rw [List.getElem_append_right (by simp; omega)]
        simp only [List.getElem_drop, List.length_append, List.length_take]
        congr 1
        omega
      rw [e1]
      exact hc2 i (by omega)

theorem rep_fill {pl : List (Nat × Nat)} {place : Nat → Option (Nat × Nat)} (hpl : ∀ i p, pl[i]? = some p → place i = some p) :
    ∀ (vparts : List (Nat × Value)) (parts : List (Nat × AV)) (cells : Array Value) (cs out : List AV), vparts.map (·.1) = parts.map (·.1) →
      (∀ i, i < parts.length → Rep w I ((vparts.map (·.2)).getD i undef) ((parts.map (·.2)).getD i .any)) → RepL w I cells cs → fillA pl cs parts = some out →
      ∃ r, Instr.fill place cells vparts = some r ∧ RepL w I r out := by
  intro vparts
  induction vparts with
  | nil =>
    intro parts cells cs out hk _ hc h
    cases parts with
    | nil => simp only [fillA] at h; cases h; exact ⟨cells, rfl, hc⟩
    | cons p r => simp at hk
  | cons vp vr ih =>
    intro parts cells cs out hk hv hc h
    cases parts with
    | nil => simp at hk
    | cons p r =>
      obtain ⟨i, v⟩ := vp
      obtain ⟨i', x⟩ := p
      simp only [List.map_cons, List.cons.injEq] at hk
      obtain ⟨rfl, hk⟩ := hk
      simp only [fillA] at h
      split at h
      · rename_i off size vc hp hx
        split at h
        · rename_i hs
          obtain ⟨hs1, hs2⟩ := hs
          have hrep : Rep w I v x := by simpa using hv 0 (by simp)
          have hcells := rep_cells hrep hx
          have hsz : v.cells.size = size := by rw [hcells.1, hs1]
          have hle : ¬ off + v.cells.size > cells.size := by rw [hsz, hc.1]; omega
          have hsp := rep_splice hc hcells (off := off) (by omega)
          rw [hs1] at hsp
          obtain ⟨res, h1, h2⟩ := ih r _ _ out hk (fun j hj => by have := hv (j + 1) (by simp; omega); simpa using this) hsp h
          refine ⟨res, ?_, h2⟩
          simp only [Instr.fill, hpl i _ hp, hsz, ne_eq, not_true_eq_false, decide_false, Bool.false_or, decide_eq_true_eq]
          rw [if_neg (by rw [← hsz]; exact hle)]
          exact h1
        · cases h
      · cases h

theorem rep_zero (z : Array Value) : RepL w I z (z.toList.map .lit) := by
  refine ⟨by simp, fun i hi => ?_⟩
  simp at hi
  simp [hi]
  exact .lit _

theorem run_buildv {parts : List (Nat × AV)} {vparts : Array (Nat × Value)} (hk : vparts.toList.map (·.1) = parts.map (·.1))
    (hv : ∀ i, i < parts.length → Rep w I ((vparts.toList.map (·.2)).getD i undef) ((parts.map (·.2)).getD i .any)) (h : (buildv P T parts).1) :
    ∃ r, (Instr.build T vparts).run P w = .ok r w ∧ Rep w I r (buildv P T parts).2 := by
  unfold buildv at h ⊢
  split at h
  · rename_i z pl hb
    split at h
    · rename_i cs hf
      simp only [hf]
      have key : ∃ r, P.built T vparts.toList = some r ∧ RepL w I r cs := by
        unfold bldT at hb
        unfold Program.built
        split at hb
        · rename_i it n e hi hd
          split at hb
          · rename_i zv ie hz hie
            cases hb
            simp only [hi, hd, hz, hie]
            exact rep_fill (fun i p hp => by simp [List.getElem?_map] at hp; obtain ⟨a, ha, rfl⟩ := hp; have := List.getElem?_range (n := n) (i := i); by_cases hin : i < n <;> simp_all) vparts.toList parts zv.cells _ cs hk hv (rep_zero _) hf
          · cases hb
        · rename_i it fields hi hd
          split at hb
          · rename_i zv places hz hp
            cases hb
            simp only [hi, hd, hz, hp]
            exact rep_fill (fun i p hp => by simpa using hp) vparts.toList parts zv.cells _ cs hk hv (rep_zero _) hf
          · cases hb
        · cases hb
      obtain ⟨r, h1, h2⟩ := key
      exact ⟨_, run_build w T vparts r h1, .agg _ _ h2.1 h2.2⟩
    · exact h.elim
  · exact h.elim
end
end Go.Proofs.Ytbnkmhlnoaebcaa
