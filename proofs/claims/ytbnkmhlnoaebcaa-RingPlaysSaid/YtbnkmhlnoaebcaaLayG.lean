/-
  Operations that change memory: what they come to, and that it is so. New blocks, stores, make, append.
-/
import Derived.Test.YtbnkmhlnoaebcaaLayF
namespace Go.Proofs.Ytbnkmhlnoaebcaa
open Go
set_option linter.unusedSimpArgs false
set_option linter.unusedVariables false

/-- No block of ours has this number. -/
def fresh (H : Hp) (b : Nat) : Prop := ∀ x ∈ H, x.1 ≠ b ∧ b ≠ x.1

def intsV (k : IntKind) : List Value → Option (List Int)
  | [] => some []
  | .int k' n :: r => if k = k' then (intsV k r).map (n :: ·) else none
  | _ => none

def intsA (k : IntKind) : List AV → Option (List Int)
  | [] => some []
  | .lit (.int k' n) :: r => if k = k' then (intsA k r).map (n :: ·) else none
  | _ => none

theorem intsA_spec {k : IntKind} : ∀ {cs : List AV} {zs : List Int}, intsA k cs = some zs → cs = zs.map (iv k)
  | [], zs, h => by cases h; rfl
  | x :: r, zs, h => by
    cases x <;> try (simp [intsA] at h; done)
    rename_i v
    cases v <;> try (simp [intsA] at h; done)
    rename_i k' m
    simp only [intsA] at h
    split at h
    · rename_i hk
      subst hk
      cases hr : intsA k r with
      | none => rw [hr] at h; cases h
      | some ys =>
        rw [hr] at h
        cases h
        simp [intsA_spec hr]
    · cases h

def zer (P : Program) (T : TypeId) : Option (List Value) := (P.info? T).bind fun i => i.zero.map fun z => z.cells.toList

/-- A variable's block at the start. -/
def zmb (P : Program) (T : TypeId) : Option MB :=
  match zer P T with
  | some vs => match P.underlying T with
    | some (.array _ e) => match P.underlying e with
      | some (.int k) => match intsV k vs with
        | some zs => some (.zs k zs zs.length T)
        | none => none
      | _ => some (.cells (vs.map .lit) vs.length T)
    | _ => some (.cells (vs.map .lit) vs.length T)
  | none => none

section
variable {P : Program} {cx : Cx} {w : World} {H : Hp} {I : Nat → Prop}

theorem MOk.to_cells {b sz : Nat} {k : IntKind} {zs : List Int} {ty : TypeId} (h : MOk w I b (.zs k zs sz ty)) : MOk w I b (.cells (zs.map (iv k)) sz ty) := by
  obtain ⟨cur, h1, h2, h3, h4⟩ := h
  refine ⟨cur, h1, h2, by simpa using h3, fun i hi => ?_⟩
  have hi' : i < zs.length := by simpa using hi
  have := h4 i hi'
  simp only [List.getElem_map]
  refine Rep.of_eq ?_
  simp [this, List.getD, hi']

theorem MOk.to_zs {b sz : Nat} {k : IntKind} {zs : List Int} {ty : TypeId} (h : MOk w I b (.cells (zs.map (iv k)) sz ty)) : MOk w I b (.zs k zs sz ty) := by
  obtain ⟨cur, h1, h2, h3, h4⟩ := h
  have h3' : zs.length ≤ sz := by simpa using h3
  refine ⟨cur, h1, h2, h3', fun i hi => ?_⟩
  have := h4 i (by simpa using hi)
  simp only [List.getElem_map] at this
  have := this.lit_inv
  have hlt : i < cur.size := by omega
  simp [hlt] at this
  simp [hlt, this, List.getD, hi]

theorem MOk.new {b : Nat} {vs : Array Value} {cs : List AV} {ty : TypeId} (hb : w.heap[b]? = some (.cells vs ty (0, 0))) (h : RepL w I vs cs) : MOk w I b (.cells cs cs.length ty) :=
  ⟨vs, hb, h.1, Nat.le_refl _, h.2⟩

theorem intsV_spec {k : IntKind} : ∀ {vs : List Value} {zs : List Int}, intsV k vs = some zs → vs = zs.map (Value.int k)
  | [], zs, h => by cases h; rfl
  | v :: r, zs, h => by
    cases v <;> try (simp [intsV] at h; done)
    rename_i k' m
    simp only [intsV] at h
    split at h
    · rename_i hk
      subst hk
      cases hr : intsV k r with
      | none => rw [hr] at h; cases h
      | some ys =>
        rw [hr] at h
        cases h
        simp [intsV_spec hr]
    · cases h

theorem zmb_spec {T : TypeId} {m : MB} (h : zmb P T = some m) : ∃ z, (zeroValue T).run P w = .ok z w ∧
    ∀ (w' : World) (I : Nat → Prop) (b : Nat), w'.heap[b]? = some (.cells z.cells T (0, 0)) → MOk w' I b m := by
  unfold zmb at h
  cases hz : zer P T with
  | none => rw [hz] at h; cases h
  | some vs =>
    rw [hz] at h
    unfold zer at hz
    cases hi : P.info? T with
    | none => rw [hi] at hz; cases hz
    | some i =>
      rw [hi] at hz
      cases hzz : i.zero with
      | none => simp [hzz] at hz
      | some z =>
        simp [hzz] at hz
        subst hz
        have hcells : ∀ (w' : World) (I : Nat → Prop) (b : Nat), w'.heap[b]? = some (.cells z.cells T (0, 0)) → MOk w' I b (.cells (z.cells.toList.map .lit) z.cells.toList.length T) := by
          intro w' I b hb
          have := MOk.new (I := I) hb (rep_zero z.cells)
          simpa using this
        refine ⟨z, by simp [zeroValue, typeInfo, program, Sem.run, hi, hzz], ?_⟩
        simp only at h
        split at h
        · split at h
          · split at h
            · rename_i zs hs
              cases h
              intro w' I b hb
              have h1 := hcells w' I b hb
              have h2 := intsV_spec hs
              have h3 := congrArg (List.map AV.lit) h2
              rw [List.map_map] at h3
              rw [h3] at h1
              have h4 := h1.to_zs
              have h5 : z.cells.toList.length = zs.length := by rw [h2]; simp
              rw [h5] at h4
              exact h4
            · cases h
          · cases h; exact hcells
        · cases h; exact hcells

theorem heap_alloc (w : World) (ob : Obj) : (w.alloc ob).heap = w.heap.push ob := rfl

theorem Ok.push {n : Nat} {s : St} {a : Act} (ok : Ok cx n s a w) {w' : World} {ob : Obj} {m : MB} (hh : w'.heap = w.heap.push ob) (ho : w'.os = w.os) (ht : w'.tape = w.tape) (hp : w'.output = w.output)
    (hm : MOk w' (imm cx w' ((w.heap.size, m) :: s.H)) w.heap.size m) : Ok cx n { s with H := (w.heap.size, m) :: s.H } a w' ∧ fresh s.H w.heap.size := by
  have := ok.world.push hh ho ht hp hm
  exact ⟨ok.world_to this.1 this.2, fun x hx => by have := keys_lt ok.world x hx; omega⟩

theorem imm_push {w' : World} {ob : Obj} {m : MB} (hw : OkW cx H w) (hh : w'.heap = w.heap.push ob) : ∀ b, imm cx w H b → imm cx w' ((w.heap.size, m) :: H) b ∧ w'.heap[b]? = w.heap[b]? := by
  intro b hb
  have hlt := imm_lt hw.ext.size hb
  have hsz : w'.heap.size = w.heap.size + 1 := by rw [hh]; simp
  refine ⟨?_, by rw [hh, Array.getElem?_push, if_neg (by omega)]⟩
  rcases hb with hb | ⟨h1, h2, h3⟩
  · exact .inl hb
  · refine .inr ⟨h1, by omega, fun x hx => ?_⟩
    rcases List.mem_cons.1 hx with rfl | hx
    · simp only; omega
    · exact h3 x hx

/-! ### A store -/

def oneC : AV → Bool
  | .lit v => v.oneCell'
  | .sl _ _ => true
  | .slz _ _ => true
  | .ip _ => true
  | .ipz _ _ => true
  | .ifc _ _ => true
  | _ => false

theorem one_of_oneC {v : Value} {x : AV} (hv : Rep w I v x) (h : oneC x = true) : v.oneCell' = true := by
  cases hv <;> first | exact h | rfl | (simp [oneC] at h; done)

theorem cells_of_one {v : Value} (h : v.oneCell' = true) : v.cells = #[v] := by cases v <;> first | rfl | simp [Value.oneCell'] at h

def stC (P : Program) (T : TypeId) (m : MB) (off : Nat) (x : AV) : Prop × MB :=
  match tyc P T with
  | some none => match m with
    | .cells cs sz ty => (off < cs.length ∧ oneC x = true, .cells (cs.set off x) sz ty)
    | .zs k zs sz ty => match x with
      | .lit (.int k' n) => (k = k' ∧ off < zs.length, .zs k (zs.set off n) sz ty)
      | _ => (False, m)
    | .obj _ => (False, m)
  | some (some c) => match x with
    | .agg ds => match m with
      | .cells cs sz ty => (ds.length = c ∧ off + c ≤ cs.length ∧ ds.all oneC = true, .cells (cs.take off ++ ds ++ cs.drop (off + c)) sz ty)
      | .zs k zs sz ty => match intsA k ds with
        | some ys => (ys.length = c ∧ off + c ≤ zs.length, .zs k (zs.take off ++ ys ++ zs.drop (off + c)) sz ty)
        | none => (False, m)
      | .obj _ => (False, m)
    | _ => (False, m)
  | none => (False, m)

/-- The list form of what stands in a block. -/
theorem splice_getD (l : List Value) (vs : List Value) (off i : Nat) (h : off + vs.length ≤ l.length) :
    (l.take off ++ vs ++ l.drop (off + vs.length)).getD i undef = if off ≤ i ∧ i < off + vs.length then vs.getD (i - off) undef else l.getD i undef := by
  by_cases h1 : i < off
  · rw [if_neg (by omega)]
    simp only [List.getD]
    rw [List.getElem?_append_left (by simp; omega), List.getElem?_append_left (by simp; omega), List.getElem?_take_of_lt h1]
  · by_cases h2 : i < off + vs.length
    · rw [if_pos (by omega)]
      simp only [List.getD]
      rw [List.getElem?_append_left (by simp; omega), List.getElem?_append_right (by simp; omega)]
      simp [show min off l.length = off by omega]
    · rw [if_neg (by omega)]
      simp only [List.getD]
      rw [List.getElem?_append_right (by simp; omega)]
      simp [List.getElem?_drop, show min off l.length = off by omega]
      congr 2
      omega

theorem run_storeCells_cells (hw : OkW cx H w) {b off sz : Nat} {cs ds : List AV} {ty : TypeId} {vs : List Value} (hg : (b, MB.cells cs sz ty) ∈ H) (hoff : off + ds.length ≤ cs.length)
    (hvl : vs.length = ds.length) (hv : ∀ i (hi : i < ds.length), Rep w (imm cx w H) (vs.getD i undef) ds[i]) (h1 : ∀ v ∈ vs, v.oneCell' = true) :
    ∃ w', (storeCells ⟨b, off, none⟩ vs).run P w = .ok () w' ∧ OkW cx (hset H b (.cells (cs.take off ++ ds ++ cs.drop (off + ds.length)) sz ty)) w' ∧
      ∀ k, imm cx w H k → imm cx w' (hset H b (.cells (cs.take off ++ ds ++ cs.drop (off + ds.length)) sz ty)) k ∧ w'.heap[k]? = w.heap[k]? := by
  obtain ⟨cur, c1, c2, c3, c4⟩ := hw.mem _ hg
  have hst := run_storeCells_at P b off ty vs 0 cur w c1 (by simp; omega) h1
  refine ⟨_, hst, ?_⟩
  simp only [Nat.add_zero]
  have hlen : (cs.take off ++ ds ++ cs.drop (off + ds.length)).length = cs.length := by simp; omega
  generalize hrow : (cur.toList.take off ++ vs ++ cur.toList.drop (off + vs.length)).toArray = row
  have hkeep : ∀ k, k ≠ b → (w.setRow b row).heap[k]? = w.heap[k]? := fun k hk => setRow_other w b k _ hk
  refine hw.write hg (by simp) rfl rfl rfl hkeep ?_
  refine ⟨row, setRow_heap w b cur _ ty _ c1, by rw [← hrow]; simp; omega, by omega, fun i hi => ?_⟩
  rw [hlen] at hi
  have hI : ∀ k, imm cx w H k → imm cx (w.setRow b row) (hset H b (.cells (cs.take off ++ ds ++ cs.drop (off + ds.length)) sz ty)) k ∧ (w.setRow b row).heap[k]? = w.heap[k]? :=
    fun k hk => ⟨imm_keys (hset_keys _ _ _) (by simp) hk, hkeep k fun he => imm_key hw.keys hk _ hg he.symm⟩
  have hget : row.getD i undef = if off ≤ i ∧ i < off + vs.length then vs.getD (i - off) undef else cur.getD i undef := by
    rw [← hrow]
    have := splice_getD cur.toList vs off i (by simp; omega)
    simpa [List.getD] using this
  rw [hget]
  by_cases hin : off ≤ i ∧ i < off + vs.length
  · rw [if_pos hin]
    have e1 : (cs.take off ++ ds ++ cs.drop (off + ds.length))[i]'(by omega) = ds[i - off]'(by omega) := by
      rw [List.getElem_append_left (by simp; omega), List.getElem_append_right (by simp; omega)]
      simp [show min off cs.length = off by omega]
    rw [e1]
    exact (hv (i - off) (by omega)).mono hI
  · rw [if_neg hin]
    have e1 : (cs.take off ++ ds ++ cs.drop (off + ds.length))[i]'(by omega) = cs[i] := by
      by_cases hlt : i < off
      · rw [List.getElem_append_left (by simp; omega), List.getElem_append_left (by simp; omega)]
        simp
      · rw [List.getElem_append_right (by simp; omega)]
        simp only [List.getElem_drop, List.length_append, List.length_take]
        congr 1
        omega
    rw [e1]
    exact (c4 i hi).mono hI

/-- The integers of a block as cells, for a while. -/
theorem OkW.as_cells {b sz : Nat} {k : IntKind} {zs : List Int} {ty : TypeId} (hw : OkW cx H w) (hg : (b, MB.zs k zs sz ty) ∈ H) :
    OkW cx (hset H b (.cells (zs.map (iv k)) sz ty)) w ∧ (b, MB.cells (zs.map (iv k)) sz ty) ∈ hset H b (.cells (zs.map (iv k)) sz ty) ∧
      ∀ c, imm cx w H c ↔ imm cx w (hset H b (.cells (zs.map (iv k)) sz ty)) c := by
  have hI : ∀ c, imm cx w H c ↔ imm cx w (hset H b (.cells (zs.map (iv k)) sz ty)) c :=
    fun c => ⟨imm_keys (hset_keys _ _ _) rfl, imm_keys (hset_keys _ _ _).symm rfl⟩
  refine ⟨⟨by rw [hset_keys]; exact hw.nodup, fun x hx => ?_, fun x hx => ?_, hw.ext⟩, ?_, hI⟩
  · rcases hset_mem hw.nodup x hx with rfl | hx
    · exact hw.keys (b, MB.zs k zs sz ty) hg
    · exact hw.keys x hx.1
  · rcases hset_mem hw.nodup x hx with rfl | hx
    · exact (hw.mem _ hg).to_cells.mono (fun c hc => ⟨(hI c).1 hc, rfl⟩) rfl
    · exact (hw.mem x hx.1).mono (fun c hc => ⟨(hI c).1 hc, rfl⟩) rfl
  · have hn := hw.nodup
    clear hI hw
    induction H with
    | nil => cases hg
    | cons p r ih =>
      obtain ⟨b', m'⟩ := p
      simp only [List.map_cons, List.nodup_cons] at hn
      simp only [hset]
      split
      · rename_i he; subst he; exact List.mem_cons_self ..
      · rename_i he
        rcases List.mem_cons.1 hg with h | h
        · cases h; exact absurd rfl he
        · exact List.mem_cons_of_mem _ (ih h hn.2)

theorem hset_hset (b : Nat) (m m' : MB) : ∀ H : Hp, hset (hset H b m) b m' = hset H b m'
  | [] => rfl
  | (b', x) :: r => by
    simp only [hset]
    split
    · rename_i h; subst h; simp [hset]
    · rename_i h; simp [hset, h, hset_hset b m m' r]

theorem OkW.as_zs {b sz : Nat} {k : IntKind} {zs : List Int} {ty : TypeId} (hw : OkW cx (hset H b (.cells (zs.map (iv k)) sz ty)) w) :
    OkW cx (hset H b (.zs k zs sz ty)) w ∧ ∀ c, imm cx w (hset H b (.cells (zs.map (iv k)) sz ty)) c ↔ imm cx w (hset H b (.zs k zs sz ty)) c := by
  have hk : (hset H b (.zs k zs sz ty)).map (·.1) = (hset H b (.cells (zs.map (iv k)) sz ty)).map (·.1) := by rw [hset_keys, hset_keys]
  have hI : ∀ c, imm cx w (hset H b (.cells (zs.map (iv k)) sz ty)) c ↔ imm cx w (hset H b (.zs k zs sz ty)) c :=
    fun c => ⟨imm_keys hk rfl, imm_keys hk.symm rfl⟩
  have hmem : ∀ x ∈ hset H b (.zs k zs sz ty), (x = (b, .zs k zs sz ty) ∧ (b, MB.cells (zs.map (iv k)) sz ty) ∈ hset H b (.cells (zs.map (iv k)) sz ty)) ∨ x ∈ hset H b (.cells (zs.map (iv k)) sz ty) := by
    clear hw hI hk
    induction H with
    | nil => intro x hx; cases hx
    | cons p r ih =>
      obtain ⟨b', m'⟩ := p
      intro x hx
      simp only [hset] at hx ⊢
      split at hx
      · rename_i he
        simp only [if_pos he]
        rcases List.mem_cons.1 hx with rfl | hx
        · subst he; exact .inl ⟨rfl, List.mem_cons_self ..⟩
        · exact .inr (List.mem_cons_of_mem _ hx)
      · rename_i he
        simp only [if_neg he]
        rcases List.mem_cons.1 hx with rfl | hx
        · exact .inr (List.mem_cons_self ..)
        · rcases ih x hx with ⟨h1, h2⟩ | h
          · exact .inl ⟨h1, List.mem_cons_of_mem _ h2⟩
          · exact .inr (List.mem_cons_of_mem _ h)
  refine ⟨⟨by rw [hk]; exact hw.nodup, fun x hx => ?_, fun x hx => ?_, hw.ext⟩, hI⟩
  · rcases hmem x hx with ⟨rfl, h⟩ | h
    · exact hw.keys (b, MB.cells (zs.map (iv k)) sz ty) h
    · exact hw.keys x h
  · rcases hmem x hx with ⟨rfl, h⟩ | h
    · exact (hw.mem _ h).to_zs.mono (fun c hc => ⟨(hI c).1 hc, rfl⟩) rfl
    · exact (hw.mem x h).mono (fun c hc => ⟨(hI c).1 hc, rfl⟩) rfl

theorem run_storeCells_zs (hw : OkW cx H w) {b off sz : Nat} {k : IntKind} {zs ys : List Int} {ty : TypeId} (hg : (b, MB.zs k zs sz ty) ∈ H) (hoff : off + ys.length ≤ zs.length) :
    ∃ w', (storeCells ⟨b, off, none⟩ (ys.map (Value.int k))).run P w = .ok () w' ∧ OkW cx (hset H b (.zs k (zs.take off ++ ys ++ zs.drop (off + ys.length)) sz ty)) w' ∧
      ∀ c, imm cx w H c → imm cx w' (hset H b (.zs k (zs.take off ++ ys ++ zs.drop (off + ys.length)) sz ty)) c ∧ w'.heap[c]? = w.heap[c]? := by
  obtain ⟨h1, h2, h3⟩ := hw.as_cells hg
  obtain ⟨w', r1, r2, r3⟩ := run_storeCells_cells (P := P) h1 (ds := ys.map (iv k)) (vs := ys.map (Value.int k)) (off := off) h2 (by simpa using hoff) (by simp)
    (fun i hi => by
      have hi' : i < ys.length := by simpa using hi
      simp only [List.getElem_map]
      exact Rep.of_eq (by simp [List.getD, hi'])) (fun v hv => by obtain ⟨y, _, rfl⟩ := List.mem_map.1 hv; rfl)
  rw [hset_hset] at r2 r3
  have e : (zs.map (iv k)).take off ++ ys.map (iv k) ++ (zs.map (iv k)).drop (off + (ys.map (iv k)).length) = (zs.take off ++ ys ++ zs.drop (off + ys.length)).map (iv k) := by simp
  rw [e] at r2 r3
  obtain ⟨z1, z2⟩ := r2.as_zs
  exact ⟨w', r1, z1, fun c hc => ⟨(z2 c).1 (r3 c ((h3 c).1 hc)).1, (r3 c ((h3 c).1 hc)).2⟩⟩

theorem run_store_of {T : TypeId} {b off : Nat} {m : MB} {v : Value} {x : AV} (hw : OkW cx H w) (hg : hget H b = some m) (hv : Rep w (imm cx w H) v x) (h : (stC P T m off x).1) :
    ∃ w', (Instr.storeAt T (.pointer (some ⟨b, off, none⟩)) v).run P w = .ok () w' ∧ OkW cx (hset H b (stC P T m off x).2) w' ∧
      ∀ c, imm cx w H c → imm cx w' (hset H b (stC P T m off x).2) c ∧ w'.heap[c]? = w.heap[c]? := by
  have hmem := hget_mem hg
  unfold stC at h ⊢
  have key : ∀ vs : List Value, v.cells.toList = vs → (∃ i, P.info? T = some i ∧ i.size = vs.length) →
      (Instr.storeAt T (.pointer (some ⟨b, off, none⟩)) v).run P w = (storeCells ⟨b, off, none⟩ vs).run P w := by
    rintro vs rfl ⟨i, hi, hs⟩
    have hsz : v.cells.size = i.size := by rw [hs]; simp
    simp [Instr.storeAt, Instr.sureAddr, storeVar, run_sizeOf_info hi, hsz]
  split at h
  · rename_i ht
    obtain ⟨d, i, hd, hi, hs, _, _⟩ := tyc_one ht
    split at h
    · rename_i cs sz ty
      obtain ⟨h1, h2⟩ := h
      have ho := one_of_oneC hv h2
      obtain ⟨w', r1, r2, r3⟩ := run_storeCells_cells (P := P) hw (off := off) (ds := [x]) (vs := [v]) hmem (by simp; omega) rfl
        (fun j hj => by have : j = 0 := by simp at hj; omega
                        subst this; simpa using hv) (by simpa using ho)
      have e : cs.take off ++ [x] ++ cs.drop (off + [x].length) = cs.set off x := by
        rw [List.set_eq_take_append_cons_drop, if_pos h1]; simp
      rw [e] at r2 r3
      exact ⟨w', by rw [key [v] (by rw [cells_of_one ho]) ⟨i, hi, by simp [hs]⟩]; exact r1, r2, r3⟩
    · rename_i k zs sz ty
      split at h
      · rename_i k' n
        obtain ⟨rfl, h1⟩ := h
        have := hv.lit_inv; subst this
        obtain ⟨w', r1, r2, r3⟩ := run_storeCells_zs (P := P) hw (off := off) (ys := [n]) hmem (by simp; omega)
        have e : zs.take off ++ [n] ++ zs.drop (off + [n].length) = zs.set off n := by
          rw [List.set_eq_take_append_cons_drop, if_pos h1]; simp
        rw [e] at r2 r3
        exact ⟨w', by rw [key [.int k n] rfl ⟨i, hi, by simp [hs]⟩]; exact r1, r2, r3⟩
      · exact h.elim
    · exact h.elim
  · rename_i c ht
    have hinfo : ∃ i, P.info? T = some i ∧ i.size = c := by
      unfold tyc at ht
      split at ht
      · cases ht
      · split at ht
        · cases ht
        · rename_i i hi
          split at ht
          · cases ht; exact ⟨i, hi, rfl⟩
          · cases ht; exact ⟨i, hi, rfl⟩
          · split at ht <;> cases ht
    obtain ⟨i, hi, hs⟩ := hinfo
    split at h
    · rename_i ds
      cases hv with
      | agg vs ds hvs hr =>
        split at h
        · rename_i cs sz ty
          obtain ⟨rfl, h1, h2⟩ := h
          obtain ⟨w', r1, r2, r3⟩ := run_storeCells_cells (P := P) hw (off := off) (ds := ds) (vs := vs.toList) hmem h1 (by simpa using hvs)
            (fun j hj => by have := hr j hj; simpa [List.getD] using this)
            (fun u hu => by
              obtain ⟨j, hj, rfl⟩ := List.getElem_of_mem hu
              have hj' : j < vs.size := by simpa using hj
              have hjd : j < ds.length := by omega
              have := hr j hjd
              simp [hj'] at this
              exact one_of_oneC (by simpa using this) (List.all_eq_true.1 h2 _ (List.getElem_mem hjd)))
          exact ⟨w', by rw [key vs.toList rfl ⟨i, hi, by simp [hs, hvs]⟩]; exact r1, r2, r3⟩
        · rename_i k zs sz ty
          cases hys : intsA k ds with
          | none => rw [hys] at h; exact h.elim
          | some ys =>
            rw [hys] at h
            obtain ⟨rfl, h1⟩ := h
            have hds := intsA_spec hys
            have hvs' : vs.toList = ys.map (Value.int k) := by
              apply List.ext_getElem
              · rw [hds] at hvs; simpa using hvs
              · intro j hj1 hj2
                have hjd : j < ds.length := by simp at hj1; omega
                have := hr j hjd
                subst hds
                simp only [List.getElem_map] at this
                have := this.lit_inv
                have hj' : j < vs.size := by simpa using hj1
                simp [hj'] at this
                simpa using this
            obtain ⟨w', r1, r2, r3⟩ := run_storeCells_zs (P := P) hw (off := off) (ys := ys) hmem h1
            exact ⟨w', by rw [key _ hvs' ⟨i, hi, by simp [hs]⟩]; exact r1, r2, r3⟩
        · exact h.elim
    · exact h.elim
  · exact h.elim
/-- Cells written over a block from a place on. -/
def stL (m : MB) (off : Nat) (ds : List AV) : Prop × MB :=
  match m with
  | .cells cs sz ty => (off + ds.length ≤ cs.length ∧ ds.all oneC = true, .cells (cs.take off ++ ds ++ cs.drop (off + ds.length)) sz ty)
  | .zs k zs sz ty => match intsA k ds with
    | some ys => (off + ys.length ≤ zs.length, .zs k (zs.take off ++ ys ++ zs.drop (off + ys.length)) sz ty)
    | none => (False, m)
  | .obj _ => (False, m)

theorem run_storeL {b off : Nat} {m : MB} {vs : List Value} {ds : List AV} (hw : OkW cx H w) (hg : hget H b = some m) (hvl : vs.length = ds.length) (hv : ∀ i (hi : i < ds.length), Rep w (imm cx w H) (vs.getD i undef) ds[i])
    (h : (stL m off ds).1) : ∃ w', (storeCells ⟨b, off, none⟩ vs).run P w = .ok () w' ∧ OkW cx (hset H b (stL m off ds).2) w' ∧
      ∀ c, imm cx w H c → imm cx w' (hset H b (stL m off ds).2) c ∧ w'.heap[c]? = w.heap[c]? := by
  have hmem := hget_mem hg
  cases m with
  | cells cs sz ty =>
    obtain ⟨h1, h2⟩ := h
    exact run_storeCells_cells (P := P) hw hmem h1 hvl hv (fun u hu => by
      obtain ⟨j, hj, rfl⟩ := List.getElem_of_mem hu
      have hjd : j < ds.length := by omega
      have := hv j hjd
      rw [List.getD_eq_getElem?_getD, List.getElem?_eq_getElem hj, Option.getD_some] at this
      exact one_of_oneC this (List.all_eq_true.1 h2 _ (List.getElem_mem hjd)))
  | zs k zs sz ty =>
    simp only [stL] at h ⊢
    cases hys : intsA k ds with
    | none => rw [hys] at h; exact h.elim
    | some ys =>
      rw [hys] at h
      simp only
      have hds := intsA_spec hys
      have hvs' : vs = ys.map (Value.int k) := by
        apply List.ext_getElem
        · rw [hds] at hvl; simpa using hvl
        · intro j hj1 hj2
          have hjd : j < ds.length := by omega
          have := hv j hjd
          subst hds
          simp only [List.getElem_map] at this
          have := this.lit_inv
          rw [List.getD_eq_getElem?_getD, List.getElem?_eq_getElem hj1, Option.getD_some] at this
          simpa using this
      subst hvs'
      exact run_storeCells_zs (P := P) hw hmem h
  | obj o => exact h.elim
end
end Go.Proofs.Ytbnkmhlnoaebcaa
