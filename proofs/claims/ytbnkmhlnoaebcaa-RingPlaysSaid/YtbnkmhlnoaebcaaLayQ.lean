/-
  What a law's arguments are, of whatever type of numbers, flags, texts, structs and slices of them: from what the frame hands over to the layer's words.
-/
import Derived.Test.YtbnkmhlnoaebcaaLayP
import Derived.ChangeReads
namespace Go.Proofs.Ytbnkmhlnoaebcaa
open Go
set_option linter.unusedSimpArgs false
set_option linter.unusedVariables false

inductive Ty where
  | int (k : IntKind)
  | bool
  | str
  | row (k : IntKind)
  | sl (e : Ty)
  | st (fs : List Ty)

mutual
/-- Cells of a value of a type. -/
def Shp : Ty → List AV → Prop
  | .int k, xs => ∃ n, xs = [iv k n] ∧ (Lit.int k n).wf = true
  | .bool, xs => ∃ b, xs = [bv b]
  | .str, xs => ∃ s, xs = [.lit (.string s)] ∧ s.size ≤ maxLen
  | .row k, xs => ∃ zs : List Int, xs = [.slz k zs] ∧ ∀ n ∈ zs, (Lit.int k n).wf = true
  | .sl e, xs => ∃ rows : List (List AV), xs = [.sl rows.length rows.flatten] ∧ ∀ r ∈ rows, Shp e r
  | .st fs, xs => ShpL fs xs
def ShpL : List Ty → List AV → Prop
  | [], xs => xs = []
  | t :: ts, xs => ∃ a b, xs = a ++ b ∧ Shp t a ∧ ShpL ts b
end

def fsOk (P : Program) (r : TypeId → Ty → Bool) (total : Nat) : Nat → List Field → List Ty → Bool
  | off, [], [] => off == total
  | off, f :: fs, t :: ts => f.offset == off && r f.type t && fsOk P r total (off + P.cellsOf f.type) fs ts
  | _, _, _ => false

def tyOk (P : Program) : Nat → TypeId → Ty → Bool
  | 0, _, _ => false
  | d + 1, T, ty => match P.underlying T with
    | some (.int k) => match ty with
      | .int k' => decide (k = k') && P.cellsOf T == 1
      | _ => false
    | some .bool => match ty with
      | .bool => P.cellsOf T == 1
      | _ => false
    | some .string => match ty with
      | .str => P.cellsOf T == 1
      | _ => false
    | some (.slice e) => match ty with
      | .row k => (match P.underlying e with
        | some (.int k') => decide (k = k')
        | _ => false) && P.cellsOf e == 1 && P.cellsOf T == 1
      | .sl ety => tyOk P d e ety && P.cellsOf T == 1
      | _ => false
    | some (.struct fs) => match ty with
      | .st tys => fsOk P (tyOk P d) (P.cellsOf T) 0 fs.toList tys
      | _ => false
    | _ => false

theorem mapM_some {α β : Type} {f : α → Option β} : ∀ {l : List α} {ys : List β}, l.mapM f = some ys → ys.length = l.length ∧ ∀ i (h : i < l.length) (h' : i < ys.length), f l[i] = some ys[i]
  | [], ys, h => by
    simp at h
    subst h
    exact ⟨rfl, fun i h => by simp at h⟩
  | x :: r, ys, h => by
    rw [List.mapM_cons] at h
    cases hx : f x with
    | none => rw [hx] at h; simp at h
    | some y =>
      rw [hx] at h
      cases hr : r.mapM f with
      | none => rw [hr] at h; simp at h
      | some zs =>
        rw [hr] at h
        simp at h
        subst h
        obtain ⟨h1, h2⟩ := mapM_some hr
        refine ⟨by simp [h1], fun i hi hi' => ?_⟩
        cases i with
        | zero => simpa using hx
        | succ i => simpa using h2 i (by simpa using hi) (by simpa using hi')

theorem flatten_get {sz : Nat} : ∀ {rows : List (List AV)}, (∀ r ∈ rows, r.length = sz) → rows.flatten.length = rows.length * sz ∧ ∀ i j (hi : i < rows.length) (hj : j < sz), rows.flatten.getD (i * sz + j) .any = (rows.getD i []).getD j .any
  | [], _ => ⟨by simp, fun i j hi => by simp at hi⟩
  | r :: rs, h => by
    have hr := h r (List.mem_cons_self ..)
    obtain ⟨h1, h2⟩ := flatten_get (rows := rs) fun q hq => h q (List.mem_cons_of_mem _ hq)
    refine ⟨by simp [h1, hr, Nat.succ_mul]; omega, fun i j hi hj => ?_⟩
    cases i with
    | zero =>
      simp only [List.flatten_cons, Nat.zero_mul, Nat.zero_add, List.getD, List.getElem?_cons_zero, Option.getD_some]
      rw [List.getElem?_append_left (by omega)]
    | succ i =>
      have := h2 i j (by simpa using hi) hj
      simp only [List.flatten_cons, List.getD] at this ⊢
      rw [List.getElem?_append_right (by rw [hr, Nat.succ_mul]; omega)]
      rw [show (i + 1) * sz + j - r.length = i * sz + j by rw [hr, Nat.succ_mul]; omega]
      simpa using this

section
variable {H : Type} {enc : TypeId × Value → H} {P : Program} {w : World} {spare : Nat → Bool} {held : Bool}

def Opens (w : World) (ty : Ty) (sz : Nat) (cs : List Value) : Prop :=
  ∃ xs, Shp ty xs ∧ xs.length = sz ∧ cs.length = sz ∧ ∀ i (hi : i < xs.length), Rep w (fun b => b < w.heap.size) (cs.getD i undef) xs[i]

theorem cells?_some {a : Addr} {n : Nat} {cs : List Value} (h : w.cells? 0 a n = some cs) : cs.length = n ∧ ∀ j, j < n → w.cell? (a.add j) = some (cs.getD j undef) := by
  unfold World.cells? at h
  rw [if_pos (Nat.zero_le _)] at h
  obtain ⟨h1, h2⟩ := mapM_some h
  simp only [List.length_range] at h1
  refine ⟨h1, fun j hj => ?_⟩
  have := h2 j (by simpa using hj) (by omega)
  simp only [List.getElem_range] at this
  rw [this]
  simp [List.getD, show j < cs.length by omega]

theorem add_at {a : Addr} {v : Value} (h : w.cell? (a.add 0) = some v) : a.block < w.heap.size ∧ ∃ b off, a = ⟨b, off, none⟩ := by
  have := World.cell?_lt h
  unfold Addr.add at this
  rw [if_pos rfl] at this
  obtain ⟨h1, h2⟩ := this
  obtain ⟨b, off, sp⟩ := a
  simp only at h1 h2
  subst h2
  exact ⟨h1, b, off, rfl⟩

/-- Elements of a slice, one behind the other. -/
theorem opens_elems {e : TypeId} {fuel len : Nat} {a : Addr} {elems : List (DataW H × List MemPlace)} {Q : Nat → List Value → Prop} (hc : 0 < P.cellsOf e)
    (hm : ((List.range len).mapM fun i => (w.cells? 0 (a.add (i * P.cellsOf e)) (P.cellsOf e)).bind (DataW.trod enc P w 0 spare held fuel e)) = some elems)
    (hQ : ∀ (i : Nat) (cs : List Value) (r : DataW H × List MemPlace), DataW.trod enc P w 0 spare held fuel e cs = some r → Q i cs) :
    len = 0 ∨ ∃ b off, a = ⟨b, off, none⟩ ∧ b < w.heap.size ∧ ∀ i, i < len → ∃ cs, cs.length = P.cellsOf e ∧ Q i cs ∧ ∀ j, j < P.cellsOf e → w.cell? ⟨b, off + (i * P.cellsOf e + j), none⟩ = some (cs.getD j undef) := by
  obtain ⟨h1, h2⟩ := mapM_some hm
  have hel : ∀ i, i < len → ∃ cs, cs.length = P.cellsOf e ∧ Q i cs ∧ ∀ j, j < P.cellsOf e → w.cell? ((a.add (i * P.cellsOf e)).add j) = some (cs.getD j undef) := by
    intro i hi
    have := h2 i (by simpa using hi) (by simp at h1; omega)
    simp only [List.getElem_range] at this
    cases hc : w.cells? 0 (a.add (i * P.cellsOf e)) (P.cellsOf e) with
    | none => rw [hc] at this; simp at this
    | some cs =>
      rw [hc] at this
      obtain ⟨g1, g2⟩ := cells?_some hc
      exact ⟨cs, g1, hQ i cs _ this, g2⟩
  by_cases h0 : len = 0
  · exact .inl h0
  · obtain ⟨cs0, _, _, g⟩ := hel 0 (by omega)
    have g0 := g 0 hc
    rw [Nat.zero_mul] at g0
    have g0' : w.cell? (a.add 0) = some (cs0.getD 0 undef) := by
      have : (a.add 0).add 0 = a.add 0 := by simp [Addr.add]
      rw [this] at g0
      exact g0
    obtain ⟨hb, b, off, rfl⟩ := add_at g0'
    refine .inr ⟨b, off, rfl, hb, fun i hi => ?_⟩
    obtain ⟨cs, c1, c2, c3⟩ := hel i hi
    refine ⟨cs, c1, c2, fun j hj => ?_⟩
    have := c3 j hj
    rw [Addr.add_none, Addr.add_none] at this
    rw [← Nat.add_assoc]
    exact this

theorem choose_list {α : Type} {R : Nat → α → Prop} : ∀ (n : Nat), (∀ i, i < n → ∃ x, R i x) → ∃ l : List α, l.length = n ∧ ∀ i (h : i < l.length), R i l[i]
  | 0, _ => ⟨[], rfl, fun i h => by simp at h⟩
  | n + 1, h => by
    obtain ⟨l, h1, h2⟩ := choose_list n fun i hi => h i (by omega)
    obtain ⟨x, hx⟩ := h n (by omega)
    refine ⟨l ++ [x], by simp [h1], fun i hi => ?_⟩
    by_cases hlt : i < l.length
    · rw [List.getElem_append_left hlt]; exact h2 i hlt
    · rw [List.getElem_append_right (by omega)]
      have : i = n := by simp at hi; omega
      subst this
      simpa [h1] using hx

theorem opens_fields {d : Nat} (ih : ∀ (ty : Ty) (T : TypeId) (fuel : Nat) (cs : List Value) (r : DataW H × List MemPlace), tyOk P d T ty = true → DataW.trod enc P w 0 spare held fuel T cs = some r → Opens w ty (P.cellsOf T) cs)
    {cs : List Value} {fuel total : Nat} (hcs : cs.length = total) : ∀ (fs : List Field) (tys : List Ty) (off : Nat) (rs : List (DataW H × List MemPlace)), fsOk P (tyOk P d) total off fs tys = true →
      (fs.mapM fun f => DataW.trod enc P w 0 spare held fuel f.type ((cs.drop f.offset).take (P.cellsOf f.type))) = some rs → off ≤ total ∧ ∃ xs, ShpL tys xs ∧ xs.length = total - off ∧ ∀ i (hi : i < xs.length), Rep w (fun b => b < w.heap.size) (cs.getD (off + i) undef) xs[i]
  | [], [], off, rs, h, _ => by
    simp only [fsOk, beq_iff_eq] at h
    refine ⟨by omega, [], by simp [ShpL], by simp; omega, fun i hi => by simp at hi⟩
  | f :: fs, t :: ts, off, rs, h, hr => by
    simp only [fsOk, Bool.and_eq_true, beq_iff_eq] at h
    obtain ⟨⟨h1, h2⟩, h3⟩ := h
    rw [List.mapM_cons] at hr
    cases hx : DataW.trod enc P w 0 spare held fuel f.type ((cs.drop f.offset).take (P.cellsOf f.type)) with
    | none => rw [hx] at hr; simp at hr
    | some y =>
      rw [hx] at hr
      cases hrr : (fs.mapM fun f => DataW.trod enc P w 0 spare held fuel f.type ((cs.drop f.offset).take (P.cellsOf f.type))) with
      | none => rw [hrr] at hr; simp at hr
      | some zs =>
        obtain ⟨hle, xs2, s2, l2, r2⟩ := opens_fields ih hcs fs ts _ zs h3 hrr
        obtain ⟨xs1, s1, l1, c1, r1⟩ := ih t f.type fuel _ y h2 hx
        refine ⟨by omega, xs1 ++ xs2, ⟨xs1, xs2, rfl, s1, s2⟩, by simp [l1, l2]; omega, fun i hi => ?_⟩
        by_cases hlt : i < xs1.length
        · rw [List.getElem_append_left hlt]
          have := r1 i hlt
          have e : ((cs.drop f.offset).take (P.cellsOf f.type)).getD i undef = cs.getD (off + i) undef := by
            simp only [List.getD, List.getElem?_take, List.getElem?_drop, h1]
            rw [if_pos (by omega)]
          rw [e] at this
          exact this
        · rw [List.getElem_append_right (by omega)]
          have hi2 : i - xs1.length < xs2.length := by simp at hi; omega
          have := r2 (i - xs1.length) hi2
          rw [show off + P.cellsOf f.type + (i - xs1.length) = off + i by omega] at this
          exact this
  | [], _ :: _, _, _, h, _ => by simp [fsOk] at h
  | _ :: _, [], _, _, h, _ => by simp [fsOk] at h

theorem opens : ∀ (d : Nat) (ty : Ty) (T : TypeId) (fuel : Nat) (cs : List Value) (r : DataW H × List MemPlace), tyOk P d T ty = true → DataW.trod enc P w 0 spare held fuel T cs = some r → Opens w ty (P.cellsOf T) cs
  | 0, _, _, _, _, _, h, _ => by simp [tyOk] at h
  | d + 1, ty, T, 0, cs, r, _, hr => by simp [DataW.trod] at hr
  | d + 1, ty, T, fuel + 1, cs, r, h, hr => by
    have ih := opens d
    rw [DataW.trod_step] at hr
    unfold tyOk at h
    unfold DataW.trodStep at hr
    cases hu : P.underlying T with
    | none => rw [hu] at h; cases h
    | some td =>
      rw [hu] at h hr
      cases td with
      | int k =>
        cases ty <;> simp only at h <;> try (cases h)
        rename_i k'
        simp only [Bool.and_eq_true, decide_eq_true_eq, beq_iff_eq] at h
        obtain ⟨rfl, hc⟩ := h
        split at hr <;> first | (rename_i he _; cases he; done) | skip
        all_goals (first | (simp at *; done) | skip)
        rename_i k2 k3 n heq
        simp only [Option.some.injEq, TypeDesc.int.injEq] at heq
        subst heq
        split at hr
        · rename_i hk
          obtain ⟨rfl, hwf⟩ := hk
          exact ⟨[iv k3 n], ⟨n, rfl, hwf⟩, by simp [hc], by simp [hc], fun i hi => by
            have : i = 0 := by simp at hi; omega
            subst this
            exact .lit _⟩
        · cases hr
      | bool =>
        cases ty <;> simp only at h <;> try (cases h)
        simp only [beq_iff_eq] at h
        split at hr <;> first | (simp at *; done) | skip
        all_goals (first | (simp_all; done) | skip)
        rename_i b heq
        exact ⟨[bv b], ⟨b, rfl⟩, by simp [h], by simp [h], fun i hi => by
          have : i = 0 := by simp at hi; omega
          subst this
          exact .lit _⟩
      | string =>
        cases ty <;> simp only at h <;> try (cases h)
        simp only [beq_iff_eq] at h
        split at hr <;> first | (simp at *; done) | skip
        all_goals (first | (simp_all; done) | skip)
        rename_i s heq
        split at hr
        · rename_i hs
          exact ⟨[.lit (.string s)], ⟨s, rfl, hs⟩, by simp [h], by simp [h], fun i hi => by
            have : i = 0 := by simp at hi; omega
            subst this
            exact .lit _⟩
        · cases hr
      | slice e =>
        have hcs : (cs = [.slice none 0 0]) ∨ ∃ a len cap elems, cs = [.slice (some a) len cap] ∧ len ≤ cap ∧ cap ≤ maxLen ∧
            ((List.range len).mapM fun i => (w.cells? 0 (a.add (i * P.cellsOf e)) (P.cellsOf e)).bind (DataW.trod enc P w 0 spare held fuel e)) = some elems := by
          split at hr <;> first | (exfalso; simp at *; done) | skip
          all_goals (first | (left; rfl) | skip)
          all_goals (first | (exfalso; simp_all; done) | skip)
          rename_i e' a len cap heq
          simp only [Option.some.injEq, TypeDesc.slice.injEq] at heq
          subst heq
          split at hr
          · rename_i hk
            cases hm : ((List.range len).mapM fun i => (w.cells? 0 (a.add (i * P.cellsOf e)) (P.cellsOf e)).bind (DataW.trod enc P w 0 spare held fuel e)) with
            | none => simp [hm] at hr
            | some elems => exact .inr ⟨a, len, cap, elems, rfl, hk.2.1, hk.2.2, hm⟩
          · cases hr
        cases ty <;> simp only at h <;> try (cases h)
        · rename_i k
          simp only [Bool.and_eq_true, beq_iff_eq] at h
          obtain ⟨⟨h1, h2⟩, h3⟩ := h
          have hue : P.underlying e = some (.int k) := by
            split at h1
            · rename_i k' hk; rw [hk]; simp at h1; rw [h1]
            · cases h1
          rcases hcs with rfl | ⟨a, len, cap, elems, rfl, hl, hm, hel⟩
          · exact ⟨[.slz k []], ⟨[], rfl, by simp⟩, by simp [h3], by simp [h3], fun i hi => by
              have : i = 0 := by simp at hi; omega
              subst this
              exact Rep.nilz (.lit _)⟩
          · have hz : ∃ zs : List Int, zs.length = len ∧ (∀ n ∈ zs, (Lit.int k n).wf = true) ∧ Spot w (fun b => b < w.heap.size) (some a) zs.length (fun i => .int k (zs.getD i 0)) := by
              rcases opens_elems (Q := fun _ cs => ∃ n, cs = [.int k n] ∧ (Lit.int k n).wf = true) (by omega) hel (fun i cs r htr => by
                cases fuel with
                | zero => simp [DataW.trod] at htr
                | succ fuel =>
                  rw [DataW.trod_step] at htr
                  unfold DataW.trodStep at htr
                  rw [hue] at htr
                  split at htr <;> first | (exfalso; simp at *; done) | skip
                  all_goals (first | (exfalso; simp_all; done) | skip)
                  rename_i k2 k3 n heq
                  simp only [Option.some.injEq, TypeDesc.int.injEq] at heq
                  subst heq
                  split at htr
                  · rename_i hk
                    obtain ⟨rfl, hwf⟩ := hk
                    exact ⟨n, rfl, hwf⟩
                  · cases htr) with h0 | ⟨b, off, rfl, hb, hall⟩
              · exact ⟨[], by simp [h0], by simp, .inl rfl⟩
              · obtain ⟨zs, z1, z2⟩ := choose_list (R := fun i n => (Lit.int k n).wf = true ∧ w.cell? ⟨b, off + i, none⟩ = some (.int k n)) len fun i hi => by
                  obtain ⟨cs, c1, ⟨n, rfl, hwf⟩, c3⟩ := hall i hi
                  have := c3 0 (by omega)
                  rw [h2] at this
                  exact ⟨n, hwf, by simpa using this⟩
                refine ⟨zs, z1, fun n hn => ?_, .inr ⟨b, off, rfl, hb, fun i hi => ?_⟩⟩
                · obtain ⟨i, hi, rfl⟩ := List.getElem_of_mem hn
                  exact (z2 i hi).1
                · rw [(z2 i hi).2]
                  simp [List.getD, hi]
            obtain ⟨zs, z1, z2, z3⟩ := hz
            refine ⟨[.slz k zs], ⟨zs, rfl, z2⟩, by simp [h3], by simp [h3], fun i hi => ?_⟩
            have : i = 0 := by simp at hi; omega
            subst this
            have := Rep.slz (some a) k zs cap (by omega) hm z3
            rw [z1] at this
            exact this
        · rename_i ety
          simp only [Bool.and_eq_true, beq_iff_eq] at h
          obtain ⟨h1, h3⟩ := h
          rcases hcs with rfl | ⟨a, len, cap, elems, rfl, hl, hm, hel⟩
          · exact ⟨[.sl 0 []], ⟨[], rfl, by simp⟩, by simp [h3], by simp [h3], fun i hi => by
              have : i = 0 := by simp at hi; omega
              subst this
              exact Rep.nils (.lit _)⟩
          · by_cases hc0 : P.cellsOf e = 0
            · obtain ⟨m1, m2⟩ := mapM_some hel
              have hrows : ∀ i, i < len → ∃ xs : List AV, Shp ety xs ∧ xs.length = 0 := fun i hi => by
                have := m2 i (by simpa using hi) (by simp at m1; omega)
                simp only [List.getElem_range] at this
                cases hcc : w.cells? 0 (a.add (i * P.cellsOf e)) (P.cellsOf e) with
                | none => rw [hcc] at this; simp at this
                | some cs =>
                  rw [hcc] at this
                  obtain ⟨xs, s1, s2, _⟩ := ih ety e fuel cs _ h1 this
                  exact ⟨xs, s1, by rw [s2, hc0]⟩
              obtain ⟨rows, r1, r2⟩ := choose_list (R := fun _ xs => Shp ety xs ∧ xs.length = 0) len hrows
              obtain ⟨f1, _⟩ := flatten_get (sz := 0) (rows := rows) fun r hr => by obtain ⟨i, hi, rfl⟩ := List.getElem_of_mem hr; exact (r2 i hi).2
              refine ⟨[.sl rows.length rows.flatten], ⟨rows, rfl, fun r hr => by obtain ⟨i, hi, rfl⟩ := List.getElem_of_mem hr; exact (r2 i hi).1⟩, by simp [h3], by simp [h3], fun i hi => ?_⟩
              have : i = 0 := by simp at hi; omega
              subst this
              simp only [List.getD_cons_zero, List.getElem_cons_zero]
              rw [r1]
              exact .sl _ _ _ _ (fun _ => undef) hl hm (.inl (by rw [f1]; simp)) fun j hj => by rw [f1] at hj; simp at hj
            · rcases opens_elems (Q := fun _ cs => Opens w ety (P.cellsOf e) cs) (by omega) hel (fun i cs r htr => ih ety e fuel cs r h1 htr) with h0 | ⟨b, off, rfl, hb, hall⟩
              · subst h0
                exact ⟨[.sl 0 []], ⟨[], rfl, by simp⟩, by simp [h3], by simp [h3], fun i hi => by
                  have : i = 0 := by simp at hi; omega
                  subst this
                  exact .sl _ _ _ _ (fun _ => undef) hl hm (.inl rfl) fun j hj => by simp at hj⟩
              · obtain ⟨rows, r1, r2⟩ := choose_list (R := fun i xs => Shp ety xs ∧ xs.length = P.cellsOf e ∧ ∀ j (hj : j < xs.length), ∃ v, w.cell? ⟨b, off + (i * P.cellsOf e + j), none⟩ = some v ∧ Rep w (fun b => b < w.heap.size) v xs[j]) len fun i hi => by
                  obtain ⟨cs, c1, ⟨xs, s1, s2, s3, s4⟩, c3⟩ := hall i hi
                  exact ⟨xs, s1, s2, fun j hj => ⟨_, c3 j (by omega), s4 j hj⟩⟩
                obtain ⟨f1, f2⟩ := flatten_get (sz := P.cellsOf e) (rows := rows) fun r hr => by obtain ⟨i, hi, rfl⟩ := List.getElem_of_mem hr; exact (r2 i hi).2.1
                refine ⟨[.sl rows.length rows.flatten], ⟨rows, rfl, fun r hr => by obtain ⟨i, hi, rfl⟩ := List.getElem_of_mem hr; exact (r2 i hi).1⟩, by simp [h3], by simp [h3], fun i hi => ?_⟩
                have : i = 0 := by simp at hi; omega
                subst this
                simp only [List.getD_cons_zero, List.getElem_cons_zero]
                rw [r1]
                have hcell : ∀ m, m < rows.flatten.length → ∃ v, w.cell? ⟨b, off + m, none⟩ = some v ∧ Rep w (fun b => b < w.heap.size) v (rows.flatten.getD m .any) := by
                  intro m hm
                  rw [f1] at hm
                  have hi' : m / P.cellsOf e < rows.length := by rw [Nat.div_lt_iff_lt_mul (by omega)]; exact hm
                  have hj' : m % P.cellsOf e < P.cellsOf e := Nat.mod_lt _ (by omega)
                  have hmm : m / P.cellsOf e * P.cellsOf e + m % P.cellsOf e = m := by rw [Nat.mul_comm]; exact Nat.div_add_mod m _
                  obtain ⟨_, g2, g3⟩ := r2 _ hi'
                  obtain ⟨v, v1, v2⟩ := g3 (m % P.cellsOf e) (by rw [g2]; exact hj')
                  rw [hmm] at v1
                  refine ⟨v, v1, ?_⟩
                  have := f2 _ _ hi' hj'
                  rw [hmm] at this
                  rw [this]
                  simp only [List.getD, List.getElem?_eq_getElem hi', Option.getD_some]
                  rw [List.getElem?_eq_getElem (by rw [g2]; exact hj')]
                  exact v2
                refine .sl _ _ _ _ (fun m => (w.cell? ⟨b, off + m, none⟩).getD undef) hl hm (.inr ⟨b, off, rfl, hb, fun m hm => ?_⟩) fun m hm => ?_
                · obtain ⟨v, v1, _⟩ := hcell m hm
                  simp only [v1, Option.getD_some]
                · obtain ⟨v, v1, v2⟩ := hcell m hm
                  simp only [v1, Option.getD_some]
                  have e9 : rows.flatten.getD m .any = rows.flatten[m] := by rw [List.getD_eq_getElem?_getD, List.getElem?_eq_getElem hm, Option.getD_some]
                  rw [e9] at v2
                  exact v2
      | struct fs =>
        cases ty <;> simp only at h <;> try (cases h)
        rename_i tys
        split at hr <;> first | (exfalso; simp at *; done) | skip
        all_goals (first | (exfalso; simp_all; done) | skip)
        rename_i cs' fs' heq
        simp only [Option.some.injEq, TypeDesc.struct.injEq] at heq
        subst heq
        split at hr
        · rename_i hlen
          obtain ⟨rs, hm, _⟩ := Option.map_eq_some_iff.1 hr
          obtain ⟨_, xs, s1, s2, s3⟩ := opens_fields ih hlen fs.toList tys 0 rs h hm
          exact ⟨xs, s1, by omega, hlen, fun i hi => by simpa using s3 i hi⟩
        · cases hr
      | _ => simp at h
end

/-- An argument of one cell. -/
theorem open_one {H : Type} {enc : TypeId × Value → H} {P : Program} {w : World} {spare : Nat → Bool} {held : Bool} {ty : Ty} {T : TypeId} {v : Value} {d : DataW H} {ps : List MemPlace} (ht : tyOk P 20 T ty = true) (hc : v.cells.toList = [v])
    (h : DataW.Trod enc P w 0 spare held T v d ps) : ∃ x, Shp ty [x] ∧ Rep w (fun b => b < w.heap.size) v x := by
  obtain ⟨fuel, hf⟩ := h
  obtain ⟨xs, s1, s2, s3, s4⟩ := opens 20 ty T fuel _ _ ht hf
  rw [hc] at s3 s4
  simp at s3
  match xs, s2 with
  | [x], _ => exact ⟨x, s1, by simpa using s4 0 (by simp)⟩
  | [], h2 => simp at h2; omega
  | _ :: _ :: _, h2 => simp at h2; omega
/-- A struct. -/
theorem open_st {H : Type} {enc : TypeId × Value → H} {P : Program} {w : World} {spare : Nat → Bool} {held : Bool} {ty : Ty} {T : TypeId} {cs : Array Value} {d : DataW H} {ps : List MemPlace} (ht : tyOk P 20 T ty = true)
    (h : DataW.Trod enc P w 0 spare held T (.agg cs) d ps) : ∃ xs, Shp ty xs ∧ Rep w (fun b => b < w.heap.size) (.agg cs) (.agg xs) := by
  obtain ⟨fuel, hf⟩ := h
  obtain ⟨xs, s1, s2, s3, s4⟩ := opens 20 ty T fuel _ _ ht hf
  have hcs : (Value.agg cs).cells.toList = cs.toList := rfl
  rw [hcs] at s3 s4
  refine ⟨xs, s1, .agg _ _ (by simp at s3; omega) fun i hi => ?_⟩
  have := s4 i hi
  simpa [List.getD] using this
theorem wf_u16 {z : Int} (h : (Lit.int .u16 z).wf = true) : 0 ≤ z ∧ z ≤ 65535 := by
  simp only [Lit.wf, IntKind.min, IntKind.max, IntKind.bits, IntKind.signed] at h
  simp at h
  omega
end Go.Proofs.Ytbnkmhlnoaebcaa
