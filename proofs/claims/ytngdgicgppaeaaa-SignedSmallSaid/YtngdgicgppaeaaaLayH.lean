/-
  append, make and slices written out: what they come to, and that it is so.
-/
import Derived.Test.YtngdgicgppaeaaaLayG
namespace Go.Proofs.Ytngdgicgppaeaaa
open Go
set_option linter.unusedSimpArgs false
set_option linter.unusedVariables false

/-- Elements of a slice type: their type, cells, bytes. -/
def apT (P : Program) (T : TypeId) : Option (TypeId × Nat × Nat) :=
  match P.underlying T with
  | some (.slice e) => match P.info? e with
    | some i => match i.zero with
      | some z => if z.cells.size = i.size then some (e, i.size, i.bytes) else none
      | none => none
    | none => none
  | _ => none

def srcC (H : Hp) (sz : Nat) : AV → Prop × Nat × List AV
  | .slz k zs => (sz = 1, zs.length, zs.map (iv k))
  | .sl n cs => (n * sz = cs.length, n, cs)
  | .lit (.slice (some ⟨b, off, none⟩) n _) => match hget H b with
    | some (.cells cs _ _) => (off + n * sz ≤ cs.length, n, (cs.drop off).take (n * sz))
    | some (.zs k zs _ _) => (off + n * sz ≤ zs.length, n, ((zs.drop off).take (n * sz)).map (iv k))
    | _ => (False, 0, [])
  | .lit (.slice none n _) => (n = 0, 0, [])
  | .lit (.string s) => (sz = 1, s.size, s.data.toList.map fun b => iv .u8 (b.toNat : Int))
  | _ => (False, 0, [])


/-- A slice of integers of one cell: its element's type, its bytes, its kind. -/
def mkz (P : Program) (T : TypeId) : Option (TypeId × Nat × IntKind) :=
  match P.underlying T with
  | some (.slice e) => match P.info? e with
    | some i => match i.zero with
      | some (.int k 0) => if i.size = 1 then some (e, i.bytes, k) else none
      | _ => none
    | none => none
  | _ => none

/-- So many zeros, by append of a made row. -/
def srcM (q : Option (TypeId × Nat × IntKind)) (k : IntKind) (l : Int) : Prop × List Int :=
  match q with
  | some (_, _, k') => (k' = k ∧ 0 ≤ l ∧ l ≤ 9223372036854775807, List.replicate l.toNat 0)
  | none => (False, [])
def srcZ (P : Program) (T : TypeId) (H : Hp) (k : IntKind) : AV → Prop × List Int
  | .slz k' zs => (k' = k, zs)
  | .lit (.slice (some ⟨b, off, none⟩) n _) => match hget H b with
    | some (.zs k' zs _ _) => (k' = k ∧ off + n ≤ zs.length, (zs.drop off).take n)
    | some (.cells cs _ _) => match intsA k ((cs.drop off).take n) with
      | some ys => (off + n ≤ cs.length, ys)
      | none => (False, [])
    | _ => (False, [])
  | .lit (.slice none n _) => (n = 0, [])
  | .lit (.string s) => (k = .u8, s.data.toList.map fun b => (b.toNat : Int))
  | .lit (.int _ l) => srcM (mkz P T) k l
  | _ => (False, [])
/-- What the second type of an append must be. -/
def uOk (P : Program) (u : TypeId) : AV → Prop
  | .lit (.int _ _) => ∃ k, P.underlying u = some (.int k)
  | _ => P.underlying u = some .string ∨ ∃ e, P.underlying u = some (.slice e)

section
variable {P : Program} {cx : Cx} {w : World} {H : Hp}

theorem getD_map_lt {α β : Type} (f : α → β) (l : List α) (i : Nat) (d : β) (h : i < l.length) : (l.map f).getD i d = f l[i] := by simp [List.getD, h]

/-- What is appended: so many elements, these cells. -/
structure SrcOk (P : Program) (w : World) (sz : Nat) (v : Value) (m : Nat) (news : List Value) : Prop where
  len : ∀ w', (Builtin.lenOf v).run P w' = .ok m w'
  first : ∀ w', w'.heap = w.heap → (Builtin.firstCells sz m v).run P w' = .ok news.toArray w'
  size : news.length = m * sz

theorem cell?_heap {w w' : World} (h : w'.heap = w.heap) (a : Addr) : w'.cell? a = w.cell? a := by simp [World.cell?, h]

theorem srcOk_slice {sz m cap b off : Nat} {news : List Value} (hs : news.length = m * sz) (hc : ∀ j, j < news.length → w.cell? ⟨b, off + j, none⟩ = some (news.getD j undef)) :
    SrcOk P w sz (.slice (some ⟨b, off, none⟩) m cap) m news :=
  ⟨fun w' => by simp [Builtin.lenOf], fun w' hw => by
    have := run_firstCells_some (P := P) w' sz m ⟨b, off, none⟩ m cap news hs (fun j v hj => by
      have hjl : j < news.length := by
        rcases Nat.lt_or_ge j news.length with h | h
        · exact h
        · rw [List.getElem?_eq_none h] at hj; cases hj
      rw [Addr.add_none, cell?_heap hw, hc j hjl]
      simp [List.getD, hj])
    exact this, hs⟩

theorem srcOk_empty {sz cap : Nat} {a : Option Addr} : SrcOk P w sz (.slice a 0 cap) 0 [] :=
  ⟨fun w' => by simp [Builtin.lenOf], fun w' _ => by cases a <;> simp [Builtin.firstCells, loadCells, loadCellsFrom], by simp⟩

theorem srcOk_string {s : ByteArray} : SrcOk P w 1 (.string s) s.size (s.data.toList.map fun b => Value.int .u8 (b.toNat : Int)) :=
  ⟨fun w' => by simp [Builtin.lenOf], fun w' _ => by
    simp only [Builtin.firstCells, Sem.run_pure]
    congr 1
    have : (s.extract 0 s.size).data = s.data := by
      rw [ByteArray.data_extract]
      exact Array.extract_size
    rw [this]
    apply Array.ext'
    simp, by rw [List.length_map, Nat.mul_one]; rfl⟩

theorem srcC_sound {sz : Nat} {v : Value} {x : AV} {p : Prop} {m : Nat} {ds : List AV} (hw : OkW cx H w) (hv : Rep w (imm cx w H) v x) (hx : srcC H sz x = (p, m, ds)) (h : p) :
    ∃ news, SrcOk P w sz v m news ∧ news.length = ds.length ∧ ∀ i (hi : i < ds.length), Rep w (imm cx w H) (news.getD i undef) ds[i] := by
  unfold srcC at hx
  split at hx
  · rename_i k zs
    (simp only [Prod.mk.injEq] at hx; obtain ⟨rfl, rfl, rfl⟩ := hx)
    have h : sz = 1 := h
    subst h
    cases hv with
    | slz a k zs cap hn hm hsp =>
      refine ⟨zs.map (Value.int k), ?_, by simp, fun i hi => ?_⟩
      · rcases hsp with hsp | ⟨b, off, rfl, hb, hc⟩
        · have : zs = [] := List.eq_nil_of_length_eq_zero hsp
          subst this
          exact srcOk_empty
        · exact srcOk_slice (by simp) fun j hj => by
            have hj' : j < zs.length := by simpa using hj
            rw [hc j hj']
            simp [List.getD, hj']
      · have hi' : i < zs.length := by simpa using hi
        simp only [List.getElem_map]
        exact Rep.of_eq (getD_map_lt _ _ _ _ hi')
  · rename_i n cs
    (simp only [Prod.mk.injEq] at hx; obtain ⟨rfl, rfl, rfl⟩ := hx)
    have h : n * sz = cs.length := h
    cases hv with
    | sl a n cap cs g hn hm hsp r =>
      refine ⟨(List.range cs.length).map g, ?_, by simp, fun i hi => ?_⟩
      · rcases hsp with hsp | ⟨b, off, rfl, hb, hc⟩
        · by_cases hn0 : n = 0
          · subst hn0
            rw [hsp]
            exact srcOk_empty
          · have hz : sz = 0 := by
              rw [hsp] at h
              rcases Nat.mul_eq_zero.1 h with h | h
              · exact absurd h hn0
              · exact h
            subst hz
            rw [hsp]
            exact ⟨fun w' => by simp [Builtin.lenOf], fun w' _ => by cases a <;> simp [Builtin.firstCells, loadCells, loadCellsFrom], by simp⟩
        · exact srcOk_slice (by simp [h]) fun j hj => by
            have hj' : j < cs.length := by simpa using hj
            rw [hc j hj']
            simp [List.getD, hj']
      · have := r i hi
        simpa [List.getD, hi] using this
  · rename_i b off n cap
    have := hv.lit_inv; subst this
    cases hg : hget H b with
    | none => rw [hg] at hx; (simp only [Prod.mk.injEq] at hx; obtain ⟨rfl, rfl, rfl⟩ := hx); exact h.elim
    | some mb =>
      rw [hg] at hx
      cases mb with
      | cells cs s0 ty =>
        (simp only [Prod.mk.injEq] at hx; obtain ⟨rfl, rfl, rfl⟩ := hx)
        have h : off + n * sz ≤ cs.length := h
        obtain ⟨cur, c1, c2, c3, c4⟩ := hw.mem _ (hget_mem hg)
        have hl : ((cs.drop off).take (n * sz)).length = n * sz := by simp; omega
        refine ⟨(List.range (n * sz)).map fun j => cur.getD (off + j) undef, srcOk_slice (by simp) fun j hj => ?_, by simp only [hl]; simp, fun i hi => ?_⟩
        · have hj' : j < n * sz := by simpa using hj
          rw [cell_of_block c1]
          have : off + j < cur.size := by omega
          simp [List.getD, hj', this]
        · have hi' : i < n * sz := by simp only [hl] at hi; exact hi
          simp only [List.getElem_take, List.getElem_drop]
          have := c4 (off + i) (by omega)
          simpa [List.getD, hi'] using this
      | zs k zs s0 ty =>
        (simp only [Prod.mk.injEq] at hx; obtain ⟨rfl, rfl, rfl⟩ := hx)
        have h : off + n * sz ≤ zs.length := h
        obtain ⟨cur, c1, c2, c3, c4⟩ := hw.mem _ (hget_mem hg)
        have hl : ((zs.drop off).take (n * sz)).length = n * sz := by simp; omega
        refine ⟨((zs.drop off).take (n * sz)).map (Value.int k), srcOk_slice (by simp; omega) fun j hj => ?_, by simp, fun i hi => ?_⟩
        · have hj' : j < n * sz := by simp only [List.length_map, hl] at hj; exact hj
          rw [cell_of_block c1, c4 _ (by omega)]
          have : off + j < zs.length := by omega
          simp [List.getD, hj', this]
        · have hi' : i < ((zs.drop off).take (n * sz)).length := by simpa using hi
          simp only [List.getElem_map]
          exact Rep.of_eq (getD_map_lt _ _ _ _ hi')
      | obj o => (simp only [Prod.mk.injEq] at hx; obtain ⟨rfl, rfl, rfl⟩ := hx); exact h.elim
  · rename_i n cap
    (simp only [Prod.mk.injEq] at hx; obtain ⟨rfl, rfl, rfl⟩ := hx)
    have h : n = 0 := h
    subst h
    have := hv.lit_inv; subst this
    exact ⟨[], srcOk_empty, rfl, fun i hi => by simp at hi⟩
  · rename_i s
    (simp only [Prod.mk.injEq] at hx; obtain ⟨rfl, rfl, rfl⟩ := hx)
    have h : sz = 1 := h
    subst h
    have := hv.lit_inv; subst this
    refine ⟨_, srcOk_string, by simp, fun i hi => ?_⟩
    have hi' : i < s.data.toList.length := by simpa using hi
    simp only [List.getElem_map]
    exact Rep.of_eq (getD_map_lt _ _ _ _ hi')
  · (simp only [Prod.mk.injEq] at hx; obtain ⟨rfl, rfl, rfl⟩ := hx); exact h.elim

theorem srcZ_sound {T : TypeId} {k : IntKind} {v : Value} {x : AV} {p : Prop} {ys : List Int} (hw : OkW cx H w) (hv : Rep w (imm cx w H) v x) (hni : ∀ k l, x ≠ .lit (.int k l)) (hx : srcZ P T H k x = (p, ys)) (h : p) :
    SrcOk P w 1 v ys.length (ys.map (Value.int k)) := by
  unfold srcZ at hx
  split at hx
  · rename_i k' zs
    (simp only [Prod.mk.injEq] at hx; obtain ⟨rfl, rfl⟩ := hx)
    have h : k' = k := h
    subst h
    cases hv with
    | slz a k zs cap hn hm hsp =>
      rcases hsp with hsp | ⟨b, off, rfl, hb, hc⟩
      · have : zs = [] := List.eq_nil_of_length_eq_zero hsp
        subst this
        exact srcOk_empty
      · exact srcOk_slice (by simp) fun j hj => by
          have hj' : j < zs.length := by simpa using hj
          rw [hc j hj']
          simp [List.getD, hj']
  · rename_i b off n cap
    have := hv.lit_inv; subst this
    cases hg : hget H b with
    | none => rw [hg] at hx; (simp only [Prod.mk.injEq] at hx; obtain ⟨rfl, rfl⟩ := hx); exact h.elim
    | some mb =>
      rw [hg] at hx
      cases mb with
      | cells cs s0 ty =>
        simp only at hx
        cases hy : intsA k ((cs.drop off).take n) with
        | none => rw [hy] at hx; (simp only [Prod.mk.injEq] at hx; obtain ⟨rfl, rfl⟩ := hx); exact h.elim
        | some ys =>
          rw [hy] at hx
          (simp only [Prod.mk.injEq] at hx; obtain ⟨rfl, rfl⟩ := hx)
          have h : off + n ≤ cs.length := h
          obtain ⟨cur, c1, c2, c3, c4⟩ := hw.mem _ (hget_mem hg)
          have he := intsA_spec hy
          have hl : ys.length = n := by
            have := congrArg List.length he
            simp at this
            omega
          rw [hl]
          refine srcOk_slice (by simp [hl]) fun j hj => ?_
          have hj' : j < n := by simpa [hl] using hj
          rw [cell_of_block c1]
          have hjs : off + j < cur.size := by omega
          have hjc : off + j < cs.length := by omega
          have h4 := c4 (off + j) hjc
          have e : cs[off + j] = iv k (ys[j]'(by omega)) := by
            have : ((cs.drop off).take n)[j]'(by simp; omega) = (ys.map (iv k))[j]'(by simp; omega) := by simp only [he]
            simpa using this
          rw [e] at h4
          have h5 := h4.lit_inv
          simp [hjs] at h5
          simp [hjs, h5, List.getD, show j < ys.length by omega]
      | zs k' zs s0 ty =>
        (simp only [Prod.mk.injEq] at hx; obtain ⟨rfl, rfl⟩ := hx)
        obtain ⟨rfl, h⟩ : k' = k ∧ off + n ≤ zs.length := h
        obtain ⟨cur, c1, c2, c3, c4⟩ := hw.mem _ (hget_mem hg)
        have hl : ((zs.drop off).take n).length = n := by simp; omega
        rw [hl]
        refine srcOk_slice (by simp; omega) fun j hj => ?_
        have hj' : j < n := by simp only [List.length_map, hl] at hj; exact hj
        rw [cell_of_block c1, c4 _ (by omega)]
        have : off + j < zs.length := by omega
        simp [List.getD, hj', this]
      | obj o => (simp only [Prod.mk.injEq] at hx; obtain ⟨rfl, rfl⟩ := hx); exact h.elim
  · rename_i n cap
    (simp only [Prod.mk.injEq] at hx; obtain ⟨rfl, rfl⟩ := hx)
    have h : n = 0 := h
    subst h
    have := hv.lit_inv; subst this
    exact srcOk_empty
  · rename_i s
    (simp only [Prod.mk.injEq] at hx; obtain ⟨rfl, rfl⟩ := hx)
    have h : k = .u8 := h
    subst h
    have := hv.lit_inv; subst this
    have h1 := srcOk_string (P := P) (w := w) (s := s)
    have e : (s.data.toList.map fun b => (b.toNat : Int)).length = s.size := by rw [List.length_map]; rfl
    rw [e, List.map_map]
    exact h1
  · exact absurd rfl (hni _ _)
  · (simp only [Prod.mk.injEq] at hx; obtain ⟨rfl, rfl⟩ := hx); exact h.elim

/-! ### append by itself -/

theorem run_append_room' {t u ty e : TypeId} {du : TypeDesc} {i : TypeInfo} (ht : P.underlying t = some (.slice e)) (hu : P.underlying u = some du) (hdu : du = .string ∨ ∃ e', du = .slice e') (hi : P.info? e = some i)
    {b n cap m : Nat} {x : Value} {news : List Value} (hs : SrcOk P w i.size x m news) (hroom : n + m ≤ cap) :
    (Builtin.append_ #[t, u] ty #[.slice (some ⟨b, 0, none⟩) n cap, x]).run P w =
      ((storeCells ⟨b, n * i.size, none⟩ news).run P w).andThen fun _ w' => .ok (.slice (some ⟨b, 0, none⟩) (n + m) cap) w' := by
  have h1 := hs.len w
  have h2 := hs.first w rfl
  rcases hdu with rfl | ⟨e', rfl⟩ <;> simp [Builtin.append_, run_underlying ht, run_underlying hu, run_sizeOf_info hi, h1, h2, hroom, Addr.add_none]

theorem run_append_grow' {t u ty e : TypeId} {du : TypeDesc} {i : TypeInfo} {z : Value} (ht : P.underlying t = some (.slice e)) (hu : P.underlying u = some du) (hdu : du = .string ∨ ∃ e', du = .slice e') (hi : P.info? e = some i) (hz0 : i.zero = some z)
    {a : Option Addr} {n cap m : Nat} {x : Value} {news olds : List Value} (hs : SrcOk P w i.size x m news) (ho : SrcOk P w i.size (.slice a n cap) n olds) (hg : cap < n + m) (h63 : ((n + m : Nat) : Int) ≤ 9223372036854775807)
    (hb : (n + m) * i.bytes ≤ 140737488355328) :
    (Builtin.append_ #[t, u] ty #[.slice a n cap, x]).run P w =
      .ok (.slice (some ⟨w.heap.size, 0, none⟩) (n + m) (grownCap w (n + m) cap e))
        (w.drew.alloc (.cells (olds.toArray ++ news.toArray ++ Builtin.zeroCells z.cells (grownCap w (n + m) cap e - (n + m))) e)) := by
  have h1 := hs.len w
  have h2 := hs.first w.drew rfl
  have h3 := ho.first w.drew rfl
  have hn : ¬ (n + m ≤ cap) := by omega
  have h63' : ¬ (9223372036854775807 < ((n : Int) + (m : Int))) := by omega
  have hfit := growslice_fits (need := n + m) (old := cap) (bytes := i.bytes) (by omega) hb
  have h48' : ¬ (281474976710656 < Builtin.nextslicecap (n + m) cap * i.bytes) := by omega
  rcases hdu with rfl | ⟨e', rfl⟩ <;> simp [Builtin.append_, run_underlying ht, run_underlying hu, sizeOf, typeInfo, zeroValue, hi, hz0, h1, hn, h63', h48', Question.forced, h2, h3, newRow, grownCap]
  all_goals
    congr 2
    apply Array.ext'
    simp [List.append_assoc]

theorem run_append_none' {t u ty e : TypeId} {du : TypeDesc} {i : TypeInfo} (ht : P.underlying t = some (.slice e)) (hu : P.underlying u = some du) (hdu : du = .string ∨ ∃ e', du = .slice e') (hi : P.info? e = some i)
    {cap : Nat} {x : Value} (hs : SrcOk P w i.size x 0 []) :
    (Builtin.append_ #[t, u] ty #[.slice none 0 cap, x]).run P w = .ok (.slice none 0 cap) w := by
  have h1 := hs.len w
  have h2 := hs.first w rfl
  rcases hdu with rfl | ⟨e', rfl⟩ <;> simp [Builtin.append_, run_underlying ht, run_underlying hu, run_sizeOf_info hi, h1, h2]

/-- What an append of this source comes to. -/
structure ApR (P : Program) (w : World) (t u e : TypeId) (i : TypeInfo) (z : Value) (x : Value) (m : Nat) (news : List Value) : Prop where
  size : news.length = m * i.size
  room : ∀ {ty b n cap : Nat}, n + m ≤ cap → (n + m) * i.bytes ≤ 140737488355328 → (Builtin.append_ #[t, u] ty #[.slice (some ⟨b, 0, none⟩) n cap, x]).run P w =
      ((storeCells ⟨b, n * i.size, none⟩ news).run P w).andThen fun _ w' => .ok (.slice (some ⟨b, 0, none⟩) (n + m) cap) w'
  grow : ∀ {ty n cap : Nat} {a : Option Addr} {olds : List Value}, SrcOk P w i.size (.slice a n cap) n olds → cap < n + m → ((n + m : Nat) : Int) ≤ 9223372036854775807 → (n + m) * i.bytes ≤ 140737488355328 →
    (Builtin.append_ #[t, u] ty #[.slice a n cap, x]).run P w =
      .ok (.slice (some ⟨w.heap.size, 0, none⟩) (n + m) (grownCap w (n + m) cap e))
        (w.drew.alloc (.cells (olds.toArray ++ news.toArray ++ Builtin.zeroCells z.cells (grownCap w (n + m) cap e - (n + m))) e))
  none : m = 0 → ∀ {ty cap : Nat}, (Builtin.append_ #[t, u] ty #[.slice none 0 cap, x]).run P w = .ok (.slice none 0 cap) w

theorem ApR.of_src {t u e : TypeId} {du : TypeDesc} {i : TypeInfo} {z : Value} {x : Value} {m : Nat} {news : List Value} (ht : P.underlying t = some (.slice e)) (hu : P.underlying u = some du) (hdu : du = .string ∨ ∃ e', du = .slice e') (hi : P.info? e = some i) (hz : i.zero = some z)
    (hs : SrcOk P w i.size x m news) : ApR P w t u e i z x m news := {
  size := hs.size
  room := fun h _ => run_append_room' ht hu hdu hi hs h
  grow := fun ho hg h63 hb => run_append_grow' ht hu hdu hi hz hs ho hg h63 hb
  none := fun hm ty cap => by
    subst hm
    have hn : news = [] := List.eq_nil_of_length_eq_zero (by have := hs.size; simpa using this)
    subst hn
    exact run_append_none' ht hu hdu hi hs }

theorem ApR.zeros {t u e : TypeId} {k ku : IntKind} {i : TypeInfo} {z : Value} {l : Int} (ht : P.underlying t = some (.slice e)) (hu : P.underlying u = some (.int ku)) (hi : P.info? e = some i) (hz : i.zero = some z) (hzs : z.cells.size = i.size)
    (h0 : 0 ≤ l) (h1 : l ≤ 9223372036854775807) : ApR P w t u e i z (.int k l) l.toNat (Builtin.zeroCells z.cells l.toNat).toList := by
  have wl : IntKind.i64.wrap l = l := by rw [IntKind.wrap_i64]; omega
  have n1 : ¬ l < 0 := by omega
  have hmul : ∀ n : Nat, (n + l.toNat) * i.bytes ≤ 140737488355328 → ¬ (281474976710656 < l * (i.bytes : Int)) := by
    intro n hb
    have h2 : l.toNat * i.bytes ≤ 140737488355328 := Nat.le_trans (Nat.mul_le_mul_right _ (by omega)) hb
    have h3 : l * (i.bytes : Int) = ((l.toNat * i.bytes : Nat) : Int) := by rw [Int.natCast_mul, Int.toNat_of_nonneg h0]
    omega
  have hz0 : l.toNat * i.size = 0 → Builtin.zeroCells z.cells l.toNat = #[] := fun h => Array.eq_empty_of_size_eq_zero (by rw [size_zeroCells, hzs, h])
  refine ⟨by simp [size_zeroCells, hzs], fun {ty b n cap} hroom hb => ?_, fun {ty n cap a olds} ho hg h63 hb => ?_, fun hm ty cap => ?_⟩
  · have h2 := hmul n hb
    by_cases hs : l.toNat * i.size = 0
    · have he := hz0 hs
      simp [Builtin.append_, run_underlying ht, run_underlying hu, run_sizeOf_info hi, asInt, asIntOf, wl, n1, typeInfo, hi, h2, hs, hroom, Addr.add_none, he]
    · simp [Builtin.append_, run_underlying ht, run_underlying hu, run_sizeOf_info hi, asInt, asIntOf, wl, n1, typeInfo, zeroValue, hi, hz, h2, hs, hroom, Addr.add_none]
  · have h2 := hmul n hb
    have h3 := ho.first w.drew rfl
    have hn : ¬ (n + l.toNat ≤ cap) := by omega
    have h63' : ¬ (9223372036854775807 < ((n : Int) + (l.toNat : Int))) := by omega
    have hfit := growslice_fits (need := n + l.toNat) (old := cap) (bytes := i.bytes) (by omega) hb
    have h48' : ¬ (281474976710656 < Builtin.nextslicecap (n + l.toNat) cap * i.bytes) := by omega
    have h63'' : ¬ (9223372036854775807 < ((n : Int) + max l 0)) := by omega
    by_cases hs : l.toNat * i.size = 0
    · have he := hz0 hs
      simp [Builtin.append_, run_underlying ht, run_underlying hu, sizeOf, typeInfo, zeroValue, hi, hz, asInt, asIntOf, wl, n1, h2, hs, hn, h63', h63'', h48', Question.forced, h3, newRow, grownCap, he]
      try (congr 2; apply Array.ext'; simp [List.append_assoc])
    · simp [Builtin.append_, run_underlying ht, run_underlying hu, sizeOf, typeInfo, zeroValue, hi, hz, asInt, asIntOf, wl, n1, h2, hs, hn, h63', h63'', h48', Question.forced, h3, newRow, grownCap]
      try (congr 2; apply Array.ext'; simp [List.append_assoc])
  · have hl : l = 0 := by omega
    subst hl
    simp [Builtin.append_, run_underlying ht, run_underlying hu, run_sizeOf_info hi, asInt, asIntOf, typeInfo, hi, show IntKind.i64.wrap 0 = 0 from rfl]

/-! ### The block after it -/

def hrep : Hp → Nat → Nat → MB → Hp
  | [], _, _, _ => []
  | (b0, m0) :: r, b, b', m => if b = b0 then (b', m) :: r else (b0, m0) :: hrep r b b' m

theorem hrep_self (b : Nat) (m : MB) : ∀ H : Hp, hrep H b b m = hset H b m
  | [] => rfl
  | (b0, m0) :: r => by
    simp only [hrep, hset]
    split
    · rename_i h; subst h; rfl
    · rw [hrep_self b m r]

theorem hrep_perm {b b' : Nat} {m m' : MB} : ∀ {H : Hp}, hget H b = some m → ((b', m') :: H).Perm (hrep H b b' m' ++ [(b, m)])
  | [], h => by cases h
  | (b0, m0) :: r, h => by
    simp only [hget, hrep] at h ⊢
    split at h
    · rename_i he
      subst he
      cases h
      rw [if_pos rfl]
      exact (List.Perm.cons _ (List.perm_append_comm (l₁ := [(b, _)])))
    · rename_i he
      rw [if_neg he]
      exact (List.Perm.swap _ _ _).trans (List.Perm.cons _ (hrep_perm h))

def freshBut (H : Hp) (b b' : Nat) : Prop := ∀ x ∈ H, x.1 = b ∨ (x.1 ≠ b' ∧ b' ≠ x.1)

/-- Cells of which nothing is said may be named, and what is named forgotten. -/
theorem OkW.conv {b : Nat} {m m' : MB} (hw : OkW cx H w) (hg : (b, m) ∈ H) (h : ∀ I, MOk w I b m → MOk w I b m') :
    OkW cx (hset H b m') w ∧ ∀ c, imm cx w H c ↔ imm cx w (hset H b m') c := by
  have hI : ∀ c, imm cx w H c ↔ imm cx w (hset H b m') c := fun c => ⟨imm_keys (hset_keys _ _ _) rfl, imm_keys (hset_keys _ _ _).symm rfl⟩
  refine ⟨⟨by rw [hset_keys]; exact hw.nodup, fun x hx => ?_, fun x hx => ?_, hw.ext⟩, hI⟩
  · rcases hset_mem hw.nodup x hx with rfl | hx
    · exact hw.keys (b, m) hg
    · exact hw.keys x hx.1
  · rcases hset_mem hw.nodup x hx with rfl | hx
    · exact (h _ (hw.mem _ hg)).mono (fun c hc => ⟨(hI c).1 hc, rfl⟩) rfl
    · exact (hw.mem x hx.1).mono (fun c hc => ⟨(hI c).1 hc, rfl⟩) rfl

theorem hset_get {b : Nat} {m m' : MB} : ∀ {H : Hp}, hget H b = some m → hget (hset H b m') b = some m'
  | [], h => by cases h
  | (b0, m0) :: r, h => by
    simp only [hget, hset] at h ⊢
    split at h
    · rename_i he; subst he; simp [hget]
    · rename_i he; simp [he, hget, hset_get h]

theorem getElem_append_any {cs : List AV} {k i : Nat} (hi : i < (cs ++ List.replicate k AV.any).length) :
    (∃ h : i < cs.length, (cs ++ List.replicate k AV.any)[i] = cs[i]) ∨ (cs ++ List.replicate k AV.any)[i] = .any := by
  by_cases h : i < cs.length
  · exact .inl ⟨h, List.getElem_append_left h⟩
  · right
    rw [List.getElem_append_right (by omega)]
    simp

/-- append to a slice of our own: a block (the same one, or a new one) that holds the old cells and the new ones. -/
theorem append_own {t u ty e T0 : TypeId} {sz bytes b n cap m s0 : Nat} {x : Value} {news : List Value} {cs ds : List AV} (hT : apT P t = some (e, sz, bytes))
    (hw : OkW cx H w) (hg : hget H b = some (.cells cs s0 e)) (hn : cs.length = n * sz) (hcap : cap * sz = s0) (hcm : cap ≤ maxLen) (hA : ∀ i z, P.underlying t = some (.slice e) → P.info? e = some i → i.zero = some z → z.cells.size = i.size → i.size = sz → ApR P w t u e i z x m news) (hl : news.length = ds.length)
    (hr : ∀ i (hi : i < ds.length), Rep w (imm cx w H) (news.getD i undef) ds[i]) (h1 : ds.all oneC = true) (h63 : n + m ≤ maxLen) (hb : (n + m) * bytes ≤ 140737488355328) :
    ∃ b' cap' w', (Builtin.append_ #[t, u] ty #[.slice (some ⟨b, 0, none⟩) n cap, x]).run P w = .ok (.slice (some ⟨b', 0, none⟩) (n + m) cap') w' ∧
      n + m ≤ cap' ∧ cap' ≤ maxLen ∧ freshBut H b b' ∧ OkW cx (hrep H b b' (.cells (cs ++ ds) (cap' * sz) e)) w' ∧
      ∀ c, imm cx w H c → imm cx w' (hrep H b b' (.cells (cs ++ ds) (cap' * sz) e)) c ∧ w'.heap[c]? = w.heap[c]? := by
  unfold apT at hT
  split at hT
  · rename_i e' ht
    split at hT
    · rename_i i hi
      split at hT
      · rename_i z hz
        split at hT
        case isFalse => cases hT
        rename_i hzs
        cases hT
        have hs := hA i z ht hi hz hzs rfl
        have hmem := hget_mem hg
        obtain ⟨cur, c1, c2, c3, c4⟩ := hw.mem _ hmem
        have hds : ds.length = m * i.size := by rw [← hl]; exact hs.size
        by_cases hroom : n + m ≤ cap
        · have hfit : cs.length + ds.length ≤ s0 := by rw [hn, hds, ← hcap, ← Nat.add_mul]; exact Nat.mul_le_mul_right _ hroom
          obtain ⟨hw1, hI1⟩ := hw.conv (m' := .cells (cs ++ List.replicate (s0 - cs.length) .any) s0 e) hmem (fun I hm => by
            obtain ⟨cur, c1, c2, c3, c4⟩ := hm
            refine ⟨cur, c1, c2, by simp; omega, fun j hj => ?_⟩
            rcases getElem_append_any hj with ⟨h, he⟩ | he
            · rw [he]; exact c4 j h
            · rw [he]; exact .any _)
          have hone : ∀ v ∈ news, v.oneCell' = true := fun v hv => by
            obtain ⟨j, hj, rfl⟩ := List.getElem_of_mem hv
            have hjd : j < ds.length := by omega
            have := hr j hjd
            simp [List.getD, hj] at this
            exact one_of_oneC this (List.all_eq_true.1 h1 _ (List.getElem_mem hjd))
          obtain ⟨w', r1, r2, r3⟩ := run_storeCells_cells (P := P) hw1 (b := b) (off := n * i.size) (ds := ds) (vs := news) (hget_mem (hset_get hg)) (by simp; omega) hl
            (fun j hj => (hr j hj).mono fun c hc => ⟨(hI1 c).1 hc, rfl⟩) hone
          rw [hset_hset] at r2 r3
          generalize hcs2 : (cs ++ List.replicate (s0 - cs.length) AV.any).take (n * i.size) ++ ds ++ (cs ++ List.replicate (s0 - cs.length) AV.any).drop (n * i.size + ds.length) = cs2 at r2 r3
          have hpre : cs2.take (cs ++ ds).length = cs ++ ds := by
            rw [← hcs2, ← hn, List.take_left' rfl]
            exact List.take_left
          have hlen2 : cs2.length = s0 := by rw [← hcs2]; simp; omega
          obtain ⟨hw2, hI2⟩ := r2.conv (b := b) (m := .cells cs2 s0 e) (m' := .cells (cs ++ ds) s0 e) (hget_mem (hset_get hg)) (fun I hm => by
            obtain ⟨cur, c1, c2, c3, c4⟩ := hm
            refine ⟨cur, c1, c2, by simp; omega, fun j hj => ?_⟩
            have hj2 : j < cs2.length := by simp at hj; omega
            have := c4 j hj2
            have e2 : cs2[j] = (cs ++ ds)[j] := by
              have h3 : (cs2.take (cs ++ ds).length)[j]'(by simp at hj ⊢; omega) = (cs ++ ds)[j] := by simp only [hpre]
              rw [List.getElem_take] at h3
              exact h3
            rw [← e2]
            exact this)
          rw [hset_hset] at hw2 hI2
          refine ⟨b, cap, w', ?_, hroom, hcm, fun y hy => ?_, ?_, ?_⟩
          · rw [hs.room (ty := ty) hroom hb, r1]; rfl
          · by_cases hyb : y.1 = b
            · exact .inl hyb
            · exact .inr ⟨hyb, fun h => hyb h.symm⟩
          · rw [hrep_self, hcap]; exact hw2
          · rw [hrep_self, hcap]
            exact fun c hc => ⟨(hI2 c).1 (r3 c ((hI1 c).1 hc)).1, (r3 c ((hI1 c).1 hc)).2⟩
        · have hso : SrcOk P w i.size (.slice (some ⟨b, 0, none⟩) n cap) n ((List.range cs.length).map fun j => cur.getD j undef) :=
            srcOk_slice (by simp [hn]) fun j hj => by
              have hj' : j < cs.length := by simpa using hj
              rw [cell_of_block c1]
              have : j < cur.size := by omega
              simp [List.getD, hj', this]
          have hrun := hs.grow (ty := ty) hso (by omega) (by simp only [maxLen] at h63; omega) hb
          have hge := grownCap_ge w (n + m) cap e
          have hcm' := grownCap_le_maxLen w (n + m) cap e h63
          generalize grownCap w (n + m) cap e = cap' at hrun hge hcm'
          generalize hrow : ((List.range cs.length).map fun j => cur.getD j undef).toArray ++ news.toArray ++ Builtin.zeroCells z.cells (cap' - (n + m)) = row at hrun
          have hrs : row.size = cap' * i.size := by
            rw [← hrow]
            simp only [Array.size_append, List.size_toArray, List.length_map, List.length_range, size_zeroCells, hzs, hn, hs.size, ← Nat.add_mul]
            congr 1
            omega
          have hpush := hw.push (w' := w.drew.alloc (.cells row e)) (ob := .cells row e) (m := .cells (cs ++ ds) (cap' * i.size) e) rfl rfl rfl rfl
            ⟨row, by rw [heap_alloc]; exact Array.getElem?_push_size, hrs, by rw [← hrs, ← hrow]; simp; omega, fun j hj => by
              have hI := imm_push (m := .cells (cs ++ ds) (cap' * i.size) e) hw (heap_alloc w.drew (.cells row e))
              have hrl : row.toList = (((List.range cs.length).map fun j => cur.getD j undef) ++ news) ++ (Builtin.zeroCells z.cells (cap' - (n + m))).toList := by rw [← hrow]; simp
              have hg1 : row.getD j undef = row.toList.getD j undef := by simp [List.getD]
              have hjl : j < cs.length + ds.length := by simpa using hj
              by_cases hjc : j < cs.length
              · have e1 : row.getD j undef = cur.getD j undef := by
                  rw [hg1, hrl]
                  simp only [List.getD]
                  rw [List.getElem?_append_left (by simp; omega), List.getElem?_append_left (by simpa using hjc)]
                  simp [hjc]
                rw [e1, List.getElem_append_left hjc]
                exact (c4 j hjc).mono hI
              · have hjd : j - cs.length < ds.length := by simp at hj; omega
                have e1 : row.getD j undef = news.getD (j - cs.length) undef := by
                  rw [hg1, hrl]
                  simp only [List.getD]
                  rw [List.getElem?_append_left (by simp; omega), List.getElem?_append_right (by simpa using hjc)]
                  simp
                rw [e1, List.getElem_append_right (by omega)]
                exact (hr _ hjd).mono hI⟩
          have hp := hrep_perm (b' := w.heap.size) (m' := .cells (cs ++ ds) (cap' * i.size) e) hg
          have hd := (hpush.1.perm hp).drop
          refine ⟨w.heap.size, cap', _, hrun, hge, hcm', fun y hy => .inr (by have := keys_lt hw y hy; omega), hd.1, fun c hc => ⟨hd.2 c ((imm_perm hp).1 (hpush.2 c hc).1), (hpush.2 c hc).2⟩⟩
      · cases hT
    · cases hT
  · cases hT
end
end Go.Proofs.Ytngdgicgppaeaaa
