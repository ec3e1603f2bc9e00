/-
  The walks and the laws that the statement leans on, part 8.
-/
import Derived.ChangeReads
import Derived.Laws.Externs
import Derived.Test.YtfknbndmabogjaaDoorProg
import Derived.Test.YtfknbndmabogjaaDoorD6
import Derived.Test.YtfknbndmabogjaaDoorD7
namespace Go.Proofs.YtfknbndmabogjaaDoor
open Go
set_option linter.unusedSimpArgs false
set_option linter.unusedVariables false
inductive Ty where
  | int (k : IntKind)
  | bool
  | str
  | row (k : IntKind)
  | sl (e : Ty)
  | st (fs : List Ty)
mutual
def Shp : Ty → List AV → Prop
  | .int k, xs => ∃ n, xs = [iv k n] ∧ (Lit.int k n).wf = true
  | .bool, xs => ∃ b, xs = [bv b]
  | .str, xs => ∃ s, xs = [.lit (.string s)] ∧ s.size ≤ maxLen
  | .row k, xs => ∃ zs : List Int, xs = [.slz k zs] ∧ ∀ n ∈ zs, (Lit.int k n).wf = true
  | .sl e, xs => ∃ rows : List (List AV), xs = [.sl rows.length rows.flatten] ∧ ∀ r ∈ rows, Shp e r
  | .st fs, xs => ShpL fs xs
def ShpL : List Ty → List AV → Prop
  | [], xs => xs = []
  | t :: ts, xs => ∃ a b, xs = a ++ b ∧ Shp t a ∧ ShpL ts b
end
def fsOk (P : Program) (r : TypeId → Ty → Bool) (total : Nat) : Nat → List Field → List Ty → Bool
  | off, [], [] => off == total
  | off, f :: fs, t :: ts => f.offset == off && r f.type t && fsOk P r total (off + P.cellsOf f.type) fs ts
  | _, _, _ => false
def tyOk (P : Program) : Nat → TypeId → Ty → Bool
  | 0, _, _ => false
  | d + 1, T, ty => match P.underlying T with
    | some (.int k) => match ty with
      | .int k' => decide (k = k') && P.cellsOf T == 1
      | _ => false
    | some .bool => match ty with
      | .bool => P.cellsOf T == 1
      | _ => false
    | some .string => match ty with
      | .str => P.cellsOf T == 1
      | _ => false
    | some (.slice e) => match ty with
      | .row k => (match P.underlying e with
        | some (.int k') => decide (k = k')
        | _ => false) && P.cellsOf e == 1 && P.cellsOf T == 1
      | .sl ety => tyOk P d e ety && P.cellsOf T == 1
      | _ => false
    | some (.struct fs) => match ty with
      | .st tys => fsOk P (tyOk P d) (P.cellsOf T) 0 fs.toList tys
      | _ => false
    | _ => false
theorem mapM_some {α β : Type} {f : α → Option β} : ∀ {l : List α} {ys : List β}, l.mapM f = some ys → ys.length = l.length ∧ ∀ i (h : i < l.length) (h' : i < ys.length), f l[i] = some ys[i]
  | [], ys, h => by
    simp at h
    subst h
    exact ⟨rfl, fun i h => by simp at h⟩
  | x :: r, ys, h => by
    rw [List.mapM_cons] at h
    cases hx : f x with
    | none => rw [hx] at h; simp at h
    | some y =>
      rw [hx] at h
      cases hr : r.mapM f with
      | none => rw [hr] at h; simp at h
      | some zs =>
        rw [hr] at h
        simp at h
        subst h
        obtain ⟨h1, h2⟩ := mapM_some hr
        refine ⟨by simp [h1], fun i hi hi' => ?_⟩
        cases i with
        | zero => simpa using hx
        | succ i => simpa using h2 i (by simpa using hi) (by simpa using hi')
theorem flatten_get {sz : Nat} : ∀ {rows : List (List AV)}, (∀ r ∈ rows, r.length = sz) → rows.flatten.length = rows.length * sz ∧ ∀ i j (hi : i < rows.length) (hj : j < sz), rows.flatten.getD (i * sz + j) .any = (rows.getD i []).getD j .any
  | [], _ => ⟨by simp, fun i j hi => by simp at hi⟩
  | r :: rs, h => by
    have hr := h r (List.mem_cons_self ..)
    obtain ⟨h1, h2⟩ := flatten_get (rows := rs) fun q hq => h q (List.mem_cons_of_mem _ hq)
    refine ⟨by simp [h1, hr, Nat.succ_mul]; omega, fun i j hi hj => ?_⟩
    cases i with
    | zero =>
      simp only [List.flatten_cons, Nat.zero_mul, Nat.zero_add, List.getD, List.getElem?_cons_zero, Option.getD_some]
      rw [List.getElem?_append_left (by omega)]
    | succ i =>
      have := h2 i j (by simpa using hi) hj
      simp only [List.flatten_cons, List.getD] at this ⊢
      rw [List.getElem?_append_right (by rw [hr, Nat.succ_mul]; omega)]
      rw [show (i + 1) * sz + j - r.length = i * sz + j by rw [hr, Nat.succ_mul]; omega]
      simpa using this
section
variable {H : Type} {enc : TypeId × Value → H} {P : Program} {w : World} {spare : Nat → Bool} {held : Bool}
def Opens (w : World) (ty : Ty) (sz : Nat) (cs : List Value) : Prop :=
  ∃ xs, Shp ty xs ∧ xs.length = sz ∧ cs.length = sz ∧ ∀ i (hi : i < xs.length), Rep w (fun b => b < w.heap.size) (cs.getD i undef) xs[i]
theorem cells?_some {a : Addr} {n : Nat} {cs : List Value} (h : w.cells? 0 a n = some cs) : cs.length = n ∧ ∀ j, j < n → w.cell? (a.add j) = some (cs.getD j undef) := by
  unfold World.cells? at h
  rw [if_pos (Nat.zero_le _)] at h
  obtain ⟨h1, h2⟩ := mapM_some h
  simp only [List.length_range] at h1
  refine ⟨h1, fun j hj => ?_⟩
  have := h2 j (by simpa using hj) (by omega)
  simp only [List.getElem_range] at this
  rw [this]
  simp [List.getD, show j < cs.length by omega]
theorem add_at {a : Addr} {v : Value} (h : w.cell? (a.add 0) = some v) : a.block < w.heap.size ∧ ∃ b off, a = ⟨b, off, none⟩ := by
  have := World.cell?_lt h
  unfold Addr.add at this
  rw [if_pos rfl] at this
  obtain ⟨h1, h2⟩ := this
  obtain ⟨b, off, sp⟩ := a
  simp only at h1 h2
  subst h2
  exact ⟨h1, b, off, rfl⟩
theorem opens_elems {e : TypeId} {fuel len : Nat} {a : Addr} {elems : List (DataW H × List MemPlace)} {Q : Nat → List Value → Prop} (hc : 0 < P.cellsOf e)
    (hm : ((List.range len).mapM fun i => (w.cells? 0 (a.add (i * P.cellsOf e)) (P.cellsOf e)).bind (DataW.trod enc P w 0 spare held fuel e)) = some elems)
    (hQ : ∀ (i : Nat) (cs : List Value) (r : DataW H × List MemPlace), DataW.trod enc P w 0 spare held fuel e cs = some r → Q i cs) :
    len = 0 ∨ ∃ b off, a = ⟨b, off, none⟩ ∧ b < w.heap.size ∧ ∀ i, i < len → ∃ cs, cs.length = P.cellsOf e ∧ Q i cs ∧ ∀ j, j < P.cellsOf e → w.cell? ⟨b, off + (i * P.cellsOf e + j), none⟩ = some (cs.getD j undef) := by
  obtain ⟨h1, h2⟩ := mapM_some hm
  have hel : ∀ i, i < len → ∃ cs, cs.length = P.cellsOf e ∧ Q i cs ∧ ∀ j, j < P.cellsOf e → w.cell? ((a.add (i * P.cellsOf e)).add j) = some (cs.getD j undef) := by
    intro i hi
    have := h2 i (by simpa using hi) (by simp at h1; omega)
    simp only [List.getElem_range] at this
    cases hc : w.cells? 0 (a.add (i * P.cellsOf e)) (P.cellsOf e) with
    | none => rw [hc] at this; simp at this
    | some cs =>
      rw [hc] at this
      obtain ⟨g1, g2⟩ := cells?_some hc
      exact ⟨cs, g1, hQ i cs _ this, g2⟩
  by_cases h0 : len = 0
  · exact .inl h0
  · obtain ⟨cs0, _, _, g⟩ := hel 0 (by omega)
    have g0 := g 0 hc
    rw [Nat.zero_mul] at g0
    have g0' : w.cell? (a.add 0) = some (cs0.getD 0 undef) := by
      have : (a.add 0).add 0 = a.add 0 := by simp [Addr.add]
      rw [this] at g0
      exact g0
    obtain ⟨hb, b, off, rfl⟩ := add_at g0'
    refine .inr ⟨b, off, rfl, hb, fun i hi => ?_⟩
    obtain ⟨cs, c1, c2, c3⟩ := hel i hi
    refine ⟨cs, c1, c2, fun j hj => ?_⟩
    have := c3 j hj
    rw [Addr.add_none, Addr.add_none] at this
    rw [← Nat.add_assoc]
    exact this
theorem choose_list {α : Type} {R : Nat → α → Prop} : ∀ (n : Nat), (∀ i, i < n → ∃ x, R i x) → ∃ l : List α, l.length = n ∧ ∀ i (h : i < l.length), R i l[i]
  | 0, _ => ⟨[], rfl, fun i h => by simp at h⟩
  | n + 1, h => by
    obtain ⟨l, h1, h2⟩ := choose_list n fun i hi => h i (by omega)
    obtain ⟨x, hx⟩ := h n (by omega)
    refine ⟨l ++ [x], by simp [h1], fun i hi => ?_⟩
    by_cases hlt : i < l.length
    · rw [List.getElem_append_left hlt]; exact h2 i hlt
    · rw [List.getElem_append_right (by omega)]
      have : i = n := by simp at hi; omega
      subst this
      simpa [h1] using hx
theorem opens_fields {d : Nat} (ih : ∀ (ty : Ty) (T : TypeId) (fuel : Nat) (cs : List Value) (r : DataW H × List MemPlace), tyOk P d T ty = true → DataW.trod enc P w 0 spare held fuel T cs = some r → Opens w ty (P.cellsOf T) cs)
    {cs : List Value} {fuel total : Nat} (hcs : cs.length = total) : ∀ (fs : List Field) (tys : List Ty) (off : Nat) (rs : List (DataW H × List MemPlace)), fsOk P (tyOk P d) total off fs tys = true →
      (fs.mapM fun f => DataW.trod enc P w 0 spare held fuel f.type ((cs.drop f.offset).take (P.cellsOf f.type))) = some rs → off ≤ total ∧ ∃ xs, ShpL tys xs ∧ xs.length = total - off ∧ ∀ i (hi : i < xs.length), Rep w (fun b => b < w.heap.size) (cs.getD (off + i) undef) xs[i]
  | [], [], off, rs, h, _ => by
    simp only [fsOk, beq_iff_eq] at h
    refine ⟨by omega, [], by simp [ShpL], by simp; omega, fun i hi => by simp at hi⟩
  | f :: fs, t :: ts, off, rs, h, hr => by
    simp only [fsOk, Bool.and_eq_true, beq_iff_eq] at h
    obtain ⟨⟨h1, h2⟩, h3⟩ := h
    rw [List.mapM_cons] at hr
    cases hx : DataW.trod enc P w 0 spare held fuel f.type ((cs.drop f.offset).take (P.cellsOf f.type)) with
    | none => rw [hx] at hr; simp at hr
    | some y =>
      rw [hx] at hr
      cases hrr : (fs.mapM fun f => DataW.trod enc P w 0 spare held fuel f.type ((cs.drop f.offset).take (P.cellsOf f.type))) with
      | none => rw [hrr] at hr; simp at hr
      | some zs =>
        obtain ⟨hle, xs2, s2, l2, r2⟩ := opens_fields ih hcs fs ts _ zs h3 hrr
        obtain ⟨xs1, s1, l1, c1, r1⟩ := ih t f.type fuel _ y h2 hx
        refine ⟨by omega, xs1 ++ xs2, ⟨xs1, xs2, rfl, s1, s2⟩, by simp [l1, l2]; omega, fun i hi => ?_⟩
        by_cases hlt : i < xs1.length
        · rw [List.getElem_append_left hlt]
          have := r1 i hlt
          have e : ((cs.drop f.offset).take (P.cellsOf f.type)).getD i undef = cs.getD (off + i) undef := by
            simp only [List.getD, List.getElem?_take, List.getElem?_drop, h1]
            rw [if_pos (by omega)]
          rw [e] at this
          exact this
        · rw [List.getElem_append_right (by omega)]
          have hi2 : i - xs1.length < xs2.length := by simp at hi; omega
          have := r2 (i - xs1.length) hi2
          rw [show off + P.cellsOf f.type + (i - xs1.length) = off + i by omega] at this
          exact this
  | [], _ :: _, _, _, h, _ => by simp [fsOk] at h
  | _ :: _, [], _, _, h, _ => by simp [fsOk] at h
theorem opens : ∀ (d : Nat) (ty : Ty) (T : TypeId) (fuel : Nat) (cs : List Value) (r : DataW H × List MemPlace), tyOk P d T ty = true → DataW.trod enc P w 0 spare held fuel T cs = some r → Opens w ty (P.cellsOf T) cs
  | 0, _, _, _, _, _, h, _ => by simp [tyOk] at h
  | d + 1, ty, T, 0, cs, r, _, hr => by simp [DataW.trod] at hr
  | d + 1, ty, T, fuel + 1, cs, r, h, hr => by
    have ih := opens d
    rw [DataW.trod_step] at hr
    unfold tyOk at h
    unfold DataW.trodStep at hr
    cases hu : P.underlying T with
    | none => rw [hu] at h; cases h
    | some td =>
      rw [hu] at h hr
      cases td with
      | int k =>
        cases ty <;> simp only at h <;> try (cases h)
        rename_i k'
        simp only [Bool.and_eq_true, decide_eq_true_eq, beq_iff_eq] at h
        obtain ⟨rfl, hc⟩ := h
        split at hr <;> first | (rename_i he _; cases he; done) | skip
        all_goals (first | (simp at *; done) | skip)
        rename_i k2 k3 n heq
        simp only [Option.some.injEq, TypeDesc.int.injEq] at heq
        subst heq
        split at hr
        · rename_i hk
          obtain ⟨rfl, hwf⟩ := hk
          exact ⟨[iv k3 n], ⟨n, rfl, hwf⟩, by simp [hc], by simp [hc], fun i hi => by
            have : i = 0 := by simp at hi; omega
            subst this
            exact .lit _⟩
        · cases hr
      | bool =>
        cases ty <;> simp only at h <;> try (cases h)
        simp only [beq_iff_eq] at h
        split at hr <;> first | (simp at *; done) | skip
        all_goals (first | (simp_all; done) | skip)
        rename_i b heq
        exact ⟨[bv b], ⟨b, rfl⟩, by simp [h], by simp [h], fun i hi => by
          have : i = 0 := by simp at hi; omega
          subst this
          exact .lit _⟩
      | string =>
        cases ty <;> simp only at h <;> try (cases h)
        simp only [beq_iff_eq] at h
        split at hr <;> first | (simp at *; done) | skip
        all_goals (first | (simp_all; done) | skip)
        rename_i s heq
        split at hr
        · rename_i hs
          exact ⟨[.lit (.string s)], ⟨s, rfl, hs⟩, by simp [h], by simp [h], fun i hi => by
            have : i = 0 := by simp at hi; omega
            subst this
            exact .lit _⟩
        · cases hr
      | slice e =>
        have hcs : (cs = [.slice none 0 0]) ∨ ∃ a len cap elems, cs = [.slice (some a) len cap] ∧ len ≤ cap ∧ cap ≤ maxLen ∧
            ((List.range len).mapM fun i => (w.cells? 0 (a.add (i * P.cellsOf e)) (P.cellsOf e)).bind (DataW.trod enc P w 0 spare held fuel e)) = some elems := by
          split at hr <;> first | (exfalso; simp at *; done) | skip
          all_goals (first | (left; rfl) | skip)
          all_goals (first | (exfalso; simp_all; done) | skip)
          rename_i e' a len cap heq
          simp only [Option.some.injEq, TypeDesc.slice.injEq] at heq
          subst heq
          split at hr
          · rename_i hk
            cases hm : ((List.range len).mapM fun i => (w.cells? 0 (a.add (i * P.cellsOf e)) (P.cellsOf e)).bind (DataW.trod enc P w 0 spare held fuel e)) with
            | none => simp [hm] at hr
            | some elems => exact .inr ⟨a, len, cap, elems, rfl, hk.2.1, hk.2.2, hm⟩
          · cases hr
        cases ty <;> simp only at h <;> try (cases h)
        · rename_i k
          simp only [Bool.and_eq_true, beq_iff_eq] at h
          obtain ⟨⟨h1, h2⟩, h3⟩ := h
          have hue : P.underlying e = some (.int k) := by
            split at h1
            · rename_i k' hk; rw [hk]; simp at h1; rw [h1]
            · cases h1
          rcases hcs with rfl | ⟨a, len, cap, elems, rfl, hl, hm, hel⟩
          · exact ⟨[.slz k []], ⟨[], rfl, by simp⟩, by simp [h3], by simp [h3], fun i hi => by
              have : i = 0 := by simp at hi; omega
              subst this
              exact Rep.nilz (.lit _)⟩
          · have hz : ∃ zs : List Int, zs.length = len ∧ (∀ n ∈ zs, (Lit.int k n).wf = true) ∧ Spot w (fun b => b < w.heap.size) (some a) zs.length (fun i => .int k (zs.getD i 0)) := by
              rcases opens_elems (Q := fun _ cs => ∃ n, cs = [.int k n] ∧ (Lit.int k n).wf = true) (by omega) hel (fun i cs r htr => by
                cases fuel with
                | zero => simp [DataW.trod] at htr
                | succ fuel =>
                  rw [DataW.trod_step] at htr
                  unfold DataW.trodStep at htr
                  rw [hue] at htr
                  split at htr <;> first | (exfalso; simp at *; done) | skip
                  all_goals (first | (exfalso; simp_all; done) | skip)
                  rename_i k2 k3 n heq
                  simp only [Option.some.injEq, TypeDesc.int.injEq] at heq
                  subst heq
                  split at htr
                  · rename_i hk
                    obtain ⟨rfl, hwf⟩ := hk
                    exact ⟨n, rfl, hwf⟩
                  · cases htr) with h0 | ⟨b, off, rfl, hb, hall⟩
              · exact ⟨[], by simp [h0], by simp, .inl rfl⟩
              · obtain ⟨zs, z1, z2⟩ := choose_list (R := fun i n => (Lit.int k n).wf = true ∧ w.cell? ⟨b, off + i, none⟩ = some (.int k n)) len fun i hi => by
                  obtain ⟨cs, c1, ⟨n, rfl, hwf⟩, c3⟩ := hall i hi
                  have := c3 0 (by omega)
                  rw [h2] at this
                  exact ⟨n, hwf, by simpa using this⟩
                refine ⟨zs, z1, fun n hn => ?_, .inr ⟨b, off, rfl, hb, fun i hi => ?_⟩⟩
                · obtain ⟨i, hi, rfl⟩ := List.getElem_of_mem hn
                  exact (z2 i hi).1
                · rw [(z2 i hi).2]
                  simp [List.getD, hi]
            obtain ⟨zs, z1, z2, z3⟩ := hz
            refine ⟨[.slz k zs], ⟨zs, rfl, z2⟩, by simp [h3], by simp [h3], fun i hi => ?_⟩
            have : i = 0 := by simp at hi; omega
            subst this
            have := Rep.slz (some a) k zs cap (by omega) hm z3
            rw [z1] at this
            exact this
        · rename_i ety
          simp only [Bool.and_eq_true, beq_iff_eq] at h
          obtain ⟨h1, h3⟩ := h
          rcases hcs with rfl | ⟨a, len, cap, elems, rfl, hl, hm, hel⟩
          · exact ⟨[.sl 0 []], ⟨[], rfl, by simp⟩, by simp [h3], by simp [h3], fun i hi => by
              have : i = 0 := by simp at hi; omega
              subst this
              exact Rep.nils (.lit _)⟩
          · by_cases hc0 : P.cellsOf e = 0
            · obtain ⟨m1, m2⟩ := mapM_some hel
              have hrows : ∀ i, i < len → ∃ xs : List AV, Shp ety xs ∧ xs.length = 0 := fun i hi => by
                have := m2 i (by simpa using hi) (by simp at m1; omega)
                simp only [List.getElem_range] at this
                cases hcc : w.cells? 0 (a.add (i * P.cellsOf e)) (P.cellsOf e) with
                | none => rw [hcc] at this; simp at this
                | some cs =>
                  rw [hcc] at this
                  obtain ⟨xs, s1, s2, _⟩ := ih ety e fuel cs _ h1 this
                  exact ⟨xs, s1, by rw [s2, hc0]⟩
              obtain ⟨rows, r1, r2⟩ := choose_list (R := fun _ xs => Shp ety xs ∧ xs.length = 0) len hrows
              obtain ⟨f1, _⟩ := flatten_get (sz := 0) (rows := rows) fun r hr => by obtain ⟨i, hi, rfl⟩ := List.getElem_of_mem hr; exact (r2 i hi).2
              refine ⟨[.sl rows.length rows.flatten], ⟨rows, rfl, fun r hr => by obtain ⟨i, hi, rfl⟩ := List.getElem_of_mem hr; exact (r2 i hi).1⟩, by simp [h3], by simp [h3], fun i hi => ?_⟩
              have : i = 0 := by simp at hi; omega
              subst this
              simp only [List.getD_cons_zero, List.getElem_cons_zero]
              rw [r1]
              exact .sl _ _ _ _ (fun _ => undef) hl hm (.inl (by rw [f1]; simp)) fun j hj => by rw [f1] at hj; simp at hj
            · rcases opens_elems (Q := fun _ cs => Opens w ety (P.cellsOf e) cs) (by omega) hel (fun i cs r htr => ih ety e fuel cs r h1 htr) with h0 | ⟨b, off, rfl, hb, hall⟩
              · subst h0
                exact ⟨[.sl 0 []], ⟨[], rfl, by simp⟩, by simp [h3], by simp [h3], fun i hi => by
                  have : i = 0 := by simp at hi; omega
                  subst this
                  exact .sl _ _ _ _ (fun _ => undef) hl hm (.inl rfl) fun j hj => by simp at hj⟩
              · obtain ⟨rows, r1, r2⟩ := choose_list (R := fun i xs => Shp ety xs ∧ xs.length = P.cellsOf e ∧ ∀ j (hj : j < xs.length), ∃ v, w.cell? ⟨b, off + (i * P.cellsOf e + j), none⟩ = some v ∧ Rep w (fun b => b < w.heap.size) v xs[j]) len fun i hi => by
                  obtain ⟨cs, c1, ⟨xs, s1, s2, s3, s4⟩, c3⟩ := hall i hi
                  exact ⟨xs, s1, s2, fun j hj => ⟨_, c3 j (by omega), s4 j hj⟩⟩
                obtain ⟨f1, f2⟩ := flatten_get (sz := P.cellsOf e) (rows := rows) fun r hr => by obtain ⟨i, hi, rfl⟩ := List.getElem_of_mem hr; exact (r2 i hi).2.1
                refine ⟨[.sl rows.length rows.flatten], ⟨rows, rfl, fun r hr => by obtain ⟨i, hi, rfl⟩ := List.getElem_of_mem hr; exact (r2 i hi).1⟩, by simp [h3], by simp [h3], fun i hi => ?_⟩
                have : i = 0 := by simp at hi; omega
                subst this
                simp only [List.getD_cons_zero, List.getElem_cons_zero]
                rw [r1]
                have hcell : ∀ m, m < rows.flatten.length → ∃ v, w.cell? ⟨b, off + m, none⟩ = some v ∧ Rep w (fun b => b < w.heap.size) v (rows.flatten.getD m .any) := by
                  intro m hm
                  rw [f1] at hm
                  have hi' : m / P.cellsOf e < rows.length := by rw [Nat.div_lt_iff_lt_mul (by omega)]; exact hm
                  have hj' : m % P.cellsOf e < P.cellsOf e := Nat.mod_lt _ (by omega)
                  have hmm : m / P.cellsOf e * P.cellsOf e + m % P.cellsOf e = m := by rw [Nat.mul_comm]; exact Nat.div_add_mod m _
                  obtain ⟨_, g2, g3⟩ := r2 _ hi'
                  obtain ⟨v, v1, v2⟩ := g3 (m % P.cellsOf e) (by rw [g2]; exact hj')
                  rw [hmm] at v1
                  refine ⟨v, v1, ?_⟩
                  have := f2 _ _ hi' hj'
                  rw [hmm] at this
                  rw [this]
                  simp only [List.getD, List.getElem?_eq_getElem hi', Option.getD_some]
                  rw [List.getElem?_eq_getElem (by rw [g2]; exact hj')]
                  exact v2
                refine .sl _ _ _ _ (fun m => (w.cell? ⟨b, off + m, none⟩).getD undef) hl hm (.inr ⟨b, off, rfl, hb, fun m hm => ?_⟩) fun m hm => ?_
                · obtain ⟨v, v1, _⟩ := hcell m hm
                  simp only [v1, Option.getD_some]
                · obtain ⟨v, v1, v2⟩ := hcell m hm
                  simp only [v1, Option.getD_some]
                  have e9 : rows.flatten.getD m .any = rows.flatten[m] := by rw [List.getD_eq_getElem?_getD, List.getElem?_eq_getElem hm, Option.getD_some]
                  rw [e9] at v2
                  exact v2
      | struct fs =>
        cases ty <;> simp only at h <;> try (cases h)
        rename_i tys
        split at hr <;> first | (exfalso; simp at *; done) | skip
        all_goals (first | (exfalso; simp_all; done) | skip)
        rename_i cs' fs' heq
        simp only [Option.some.injEq, TypeDesc.struct.injEq] at heq
        subst heq
        split at hr
        · rename_i hlen
          obtain ⟨rs, hm, _⟩ := Option.map_eq_some_iff.1 hr
          obtain ⟨_, xs, s1, s2, s3⟩ := opens_fields ih hlen fs.toList tys 0 rs h hm
          exact ⟨xs, s1, by omega, hlen, fun i hi => by simpa using s3 i hi⟩
        · cases hr
      | _ => simp at h
end
theorem open_st {H : Type} {enc : TypeId × Value → H} {P : Program} {w : World} {spare : Nat → Bool} {held : Bool} {ty : Ty} {T : TypeId} {cs : Array Value} {d : DataW H} {ps : List MemPlace} (ht : tyOk P 20 T ty = true)
    (h : DataW.Trod enc P w 0 spare held T (.agg cs) d ps) : ∃ xs, Shp ty xs ∧ Rep w (fun b => b < w.heap.size) (.agg cs) (.agg xs) := by
  obtain ⟨fuel, hf⟩ := h
  obtain ⟨xs, s1, s2, s3, s4⟩ := opens 20 ty T fuel _ _ ht hf
  have hcs : (Value.agg cs).cells.toList = cs.toList := rfl
  rw [hcs] at s3 s4
  refine ⟨xs, s1, .agg _ _ (by simp at s3; omega) fun i hi => ?_⟩
  have := s4 i hi
  simpa [List.getD] using this
end Go.Proofs.YtfknbndmabogjaaDoor
namespace Go.Proofs.YtfknbndmabogjaaDoor
open Go
set_option linter.unusedVariables false
theorem ACt.outer {P : Program} {f : FuncId} {fn : Func} {e : Array Value → Sem Value} {ls : List Value} {x : AV} (hf : P.funcs[f]? = some fn) (hname : (fn.name == "runtime.NumGoroutine") = false)
    (hb : fn.body.isNone = true) (hn : Extern.findNext fn = none) (he : Extern.find fn = some e)
    (hr : ∀ w : World, ∃ v, (e ls.toArray).run P w = .ok v w ∧ ∀ I, Rep w I v x) : ACt P f (ls.map .lit) [] (Fn x) := by
  intro cx vs hK hKT hw hs hv
  have hvs : vs = ls.toArray := by
    apply Array.ext
    · simpa using hs
    · intro i h1 h2
      have h3 : i < ls.length := by simpa using h2
      have := hv i (by simpa using h3)
      have e1 : (ls.map AV.lit).getD i .any = .lit ls[i] := by simp [List.getD, h3]
      have e2 : vs.getD i undef = vs[i] := by simp [h1]
      rw [e1, e2] at this
      simpa using this.lit_inv
  obtain ⟨v, h1, h2⟩ := hr cx.w0
  refine .inr ⟨v, cx.w0, ?_, v, x, [], rfl, ⟨rfl, rfl⟩, hw, h2 _⟩
  rw [run_callFunc_extern hf hname hb hn he, hvs, h1, Result.andThen_ok]
end Go.Proofs.YtfknbndmabogjaaDoor
namespace Go.Proofs.YtfknbndmabogjaaDoor
open Go
theorem tyc0 : tyc Tryd.prog 0 = some none := by kernel_rfl
theorem tyc2 : tyc Tryd.prog 2 = some none := by kernel_rfl
theorem zmb2 : zmb Tryd.prog 2 = some (.cells [(.lit (.int .i64 0))] 1 2) := by kernel_rfl
theorem tyc3 : tyc Tryd.prog 3 = some none := by kernel_rfl
theorem zmb3 : zmb Tryd.prog 3 = some (.cells [(.lit (.int .i64 0))] 1 3) := by kernel_rfl
theorem tyc4 : tyc Tryd.prog 4 = some none := by kernel_rfl
theorem zmb4 : zmb Tryd.prog 4 = some (.cells [(.lit (.bool false))] 1 4) := by kernel_rfl
theorem tyc5 : tyc Tryd.prog 5 = some none := by kernel_rfl
theorem zmb5 : zmb Tryd.prog 5 = some (.cells [(.lit (.int .u8 0))] 1 5) := by kernel_rfl
theorem tyc9 : tyc Tryd.prog 9 = some none := by kernel_rfl
theorem zmb9 : zmb Tryd.prog 9 = some (.cells [(.lit (.string ⟨#[]⟩))] 1 9) := by kernel_rfl
theorem tyc21 : tyc Tryd.prog 21 = some none := by kernel_rfl
theorem zmb21 : zmb Tryd.prog 21 = some (.cells [(.lit (.int .i32 0))] 1 21) := by kernel_rfl
theorem tyc23 : tyc Tryd.prog 23 = some (some 5) := by kernel_rfl
theorem foff23_0 : foff Tryd.prog 23 0 = some 0 := by kernel_rfl
theorem fpart23_0 : fpart Tryd.prog 23 0 = some (0, none) := by kernel_rfl
theorem foff23_1 : foff Tryd.prog 23 1 = some 1 := by kernel_rfl
theorem fpart23_1 : fpart Tryd.prog 23 1 = some (1, none) := by kernel_rfl
theorem foff23_2 : foff Tryd.prog 23 2 = some 2 := by kernel_rfl
theorem fpart23_2 : fpart Tryd.prog 23 2 = some (2, none) := by kernel_rfl
theorem foff23_3 : foff Tryd.prog 23 3 = some 3 := by kernel_rfl
theorem fpart23_3 : fpart Tryd.prog 23 3 = some (3, none) := by kernel_rfl
theorem foff23_4 : foff Tryd.prog 23 4 = some 4 := by kernel_rfl
theorem fpart23_4 : fpart Tryd.prog 23 4 = some (4, none) := by kernel_rfl
theorem fe23 : flatEq Tryd.prog 23 [1, 1, 1, 1, 1] := flatEq_of (by kernel_rfl)
theorem zmb23 : zmb Tryd.prog 23 = some (.cells [(.lit (.int .i64 0)), (.lit (.int .i64 0)), (.lit (.int .i64 0)), (.lit (.int .i64 0)), (.lit (.int .i64 0))] 5 23) := by kernel_rfl
theorem bldT23 : bldT Tryd.prog 23 = some ([(.int .i64 0), (.int .i64 0), (.int .i64 0), (.int .i64 0), (.int .i64 0)], [(0, 1), (1, 1), (2, 1), (3, 1), (4, 1)]) := by kernel_rfl
theorem tyc24 : tyc Tryd.prog 24 = some none := by kernel_rfl
theorem elt24 : elt Tryd.prog 24 = some (none, 9) := by kernel_rfl
theorem mkz24 : mkz Tryd.prog 24 = none := by kernel_rfl
theorem mkc24 : mkc Tryd.prog 24 = some (38, 9, 88, [(.lit (.string ⟨#[]⟩)), (.lit (.string ⟨#[]⟩)), (.lit (.bool false)), (.lit (.int .u64 0)), (.lit (.bool false)), (.lit (.int .i64 0)), (.lit (.int .i64 0)), (.lit (.int .i64 0)), (.lit (.bool false))]) := by kernel_rfl
theorem apT24 : apT Tryd.prog 24 = some (38, 9, 88) := by kernel_rfl
theorem elk24 : elk Tryd.prog 24 = none := by kernel_rfl
theorem zmb24 : zmb Tryd.prog 24 = some (.cells [(.lit (.slice none 0 0))] 1 24) := by kernel_rfl
theorem tyc25 : tyc Tryd.prog 25 = some none := by kernel_rfl
theorem zmb25 : zmb Tryd.prog 25 = some (.cells [(.lit (.int .u64 0))] 1 25) := by kernel_rfl
theorem tyc27 : tyc Tryd.prog 27 = some (some 2) := by kernel_rfl
theorem foff27_0 : foff Tryd.prog 27 0 = some 0 := by kernel_rfl
theorem fpart27_0 : fpart Tryd.prog 27 0 = some (0, none) := by kernel_rfl
theorem foff27_1 : foff Tryd.prog 27 1 = some 1 := by kernel_rfl
theorem fpart27_1 : fpart Tryd.prog 27 1 = some (1, none) := by kernel_rfl
theorem zmb27 : zmb Tryd.prog 27 = some (.cells [(.lit (.slice none 0 0)), (.lit (.int .u64 0))] 2 27) := by kernel_rfl
theorem bldT27 : bldT Tryd.prog 27 = some ([(.slice none 0 0), (.int .u64 0)], [(0, 1), (1, 1)]) := by kernel_rfl
theorem tyc29 : tyc Tryd.prog 29 = some (some 5) := by kernel_rfl
theorem foff29_0 : foff Tryd.prog 29 0 = some 0 := by kernel_rfl
theorem fpart29_0 : fpart Tryd.prog 29 0 = some (0, none) := by kernel_rfl
theorem foff29_1 : foff Tryd.prog 29 1 = some 1 := by kernel_rfl
theorem fpart29_1 : fpart Tryd.prog 29 1 = some (1, none) := by kernel_rfl
theorem foff29_2 : foff Tryd.prog 29 2 = some 2 := by kernel_rfl
theorem fpart29_2 : fpart Tryd.prog 29 2 = some (2, none) := by kernel_rfl
theorem foff29_3 : foff Tryd.prog 29 3 = some 3 := by kernel_rfl
theorem fpart29_3 : fpart Tryd.prog 29 3 = some (3, none) := by kernel_rfl
theorem foff29_4 : foff Tryd.prog 29 4 = some 4 := by kernel_rfl
theorem fpart29_4 : fpart Tryd.prog 29 4 = some (4, none) := by kernel_rfl
theorem fe29 : flatEq Tryd.prog 29 [3, 3, 2, 1, 2] := flatEq_of (by kernel_rfl)
theorem zmb29 : zmb Tryd.prog 29 = some (.cells [(.lit (.string ⟨#[]⟩)), (.lit (.string ⟨#[]⟩)), (.lit (.bool false)), (.lit (.int .u64 0)), (.lit (.bool false))] 5 29) := by kernel_rfl
theorem bldT29 : bldT Tryd.prog 29 = some ([(.string ⟨#[]⟩), (.string ⟨#[]⟩), (.bool false), (.int .u64 0), (.bool false)], [(0, 1), (1, 1), (2, 1), (3, 1), (4, 1)]) := by kernel_rfl
theorem tyc34 : tyc Tryd.prog 34 = some none := by kernel_rfl
theorem zmb34 : zmb Tryd.prog 34 = some (.cells [(.lit (.int .i64 0))] 1 34) := by kernel_rfl
theorem tyc35 : tyc Tryd.prog 35 = some none := by kernel_rfl
theorem tyc38 : tyc Tryd.prog 38 = some (some 9) := by kernel_rfl
theorem foff38_0 : foff Tryd.prog 38 0 = some 0 := by kernel_rfl
theorem fpart38_0 : fpart Tryd.prog 38 0 = some (0, (some 5)) := by kernel_rfl
theorem foff38_1 : foff Tryd.prog 38 1 = some 5 := by kernel_rfl
theorem fpart38_1 : fpart Tryd.prog 38 1 = some (5, none) := by kernel_rfl
theorem foff38_2 : foff Tryd.prog 38 2 = some 6 := by kernel_rfl
theorem fpart38_2 : fpart Tryd.prog 38 2 = some (6, none) := by kernel_rfl
theorem foff38_3 : foff Tryd.prog 38 3 = some 7 := by kernel_rfl
theorem fpart38_3 : fpart Tryd.prog 38 3 = some (7, none) := by kernel_rfl
theorem foff38_4 : foff Tryd.prog 38 4 = some 8 := by kernel_rfl
theorem fpart38_4 : fpart Tryd.prog 38 4 = some (8, none) := by kernel_rfl
theorem zmb38 : zmb Tryd.prog 38 = some (.cells [(.lit (.string ⟨#[]⟩)), (.lit (.string ⟨#[]⟩)), (.lit (.bool false)), (.lit (.int .u64 0)), (.lit (.bool false)), (.lit (.int .i64 0)), (.lit (.int .i64 0)), (.lit (.int .i64 0)), (.lit (.bool false))] 9 38) := by kernel_rfl
theorem bldT38 : bldT Tryd.prog 38 = some ([(.string ⟨#[]⟩), (.string ⟨#[]⟩), (.bool false), (.int .u64 0), (.bool false), (.int .i64 0), (.int .i64 0), (.int .i64 0), (.bool false)], [(0, 5), (5, 1), (6, 1), (7, 1), (8, 1)]) := by kernel_rfl
theorem tyc43 : tyc Tryd.prog 43 = some none := by kernel_rfl
theorem elt43 : elt Tryd.prog 43 = some (none, 5) := by kernel_rfl
theorem mkz43 : mkz Tryd.prog 43 = none := by kernel_rfl
theorem mkc43 : mkc Tryd.prog 43 = some (29, 5, 56, [(.lit (.string ⟨#[]⟩)), (.lit (.string ⟨#[]⟩)), (.lit (.bool false)), (.lit (.int .u64 0)), (.lit (.bool false))]) := by kernel_rfl
theorem apT43 : apT Tryd.prog 43 = some (29, 5, 56) := by kernel_rfl
theorem elk43 : elk Tryd.prog 43 = none := by kernel_rfl
theorem zmb43 : zmb Tryd.prog 43 = some (.cells [(.lit (.slice none 0 0))] 1 43) := by kernel_rfl
theorem tyc48 : tyc Tryd.prog 48 = some none := by kernel_rfl
theorem tyc64 : tyc Tryd.prog 64 = some none := by kernel_rfl
theorem zmb64 : zmb Tryd.prog 64 = some (.cells [(.lit (.int .u32 0))] 1 64) := by kernel_rfl
theorem tyc66 : tyc Tryd.prog 66 = some (some 2) := by kernel_rfl
theorem foff66_0 : foff Tryd.prog 66 0 = some 0 := by kernel_rfl
theorem fpart66_0 : fpart Tryd.prog 66 0 = some (0, none) := by kernel_rfl
theorem foff66_1 : foff Tryd.prog 66 1 = some 1 := by kernel_rfl
theorem fpart66_1 : fpart Tryd.prog 66 1 = some (1, none) := by kernel_rfl
theorem fe66 : flatEq Tryd.prog 66 [1, 1] := flatEq_of (by kernel_rfl)
theorem zmb66 : zmb Tryd.prog 66 = some (.cells [(.lit (.int .u64 0)), (.lit (.int .u64 0))] 2 66) := by kernel_rfl
theorem bldT66 : bldT Tryd.prog 66 = some ([(.int .u64 0), (.int .u64 0)], [(0, 1), (1, 1)]) := by kernel_rfl
theorem tyc67 : tyc Tryd.prog 67 = some none := by kernel_rfl
theorem tyc75 : tyc Tryd.prog 75 = some none := by kernel_rfl
theorem zmb75 : zmb Tryd.prog 75 = some (.cells [(.lit .nilFunc)] 1 75) := by kernel_rfl
theorem tyc79 : tyc Tryd.prog 79 = some none := by kernel_rfl
theorem zmb79 : zmb Tryd.prog 79 = some (.cells [(.lit (.pointer none))] 1 79) := by kernel_rfl
theorem tyc81 : tyc Tryd.prog 81 = some none := by kernel_rfl
theorem tyc108 : tyc Tryd.prog 108 = some none := by kernel_rfl
theorem elt108 : elt Tryd.prog 108 = some (none, 8) := by kernel_rfl
theorem mkz108 : mkz Tryd.prog 108 = none := by kernel_rfl
theorem mkc108 : mkc Tryd.prog 108 = some (143, 8, 104, [(.lit (.string ⟨#[]⟩)), (.lit (.int .u32 0)), (.lit (.int .i64 0)), (.lit (.int .i64 0)), (.lit (.int .i64 0)), (.lit (.int .i64 0)), (.lit (.slice none 0 0)), (.lit (.slice none 0 0))]) := by kernel_rfl
theorem apT108 : apT Tryd.prog 108 = some (143, 8, 104) := by kernel_rfl
theorem elk108 : elk Tryd.prog 108 = none := by kernel_rfl
theorem zmb108 : zmb Tryd.prog 108 = some (.cells [(.lit (.slice none 0 0))] 1 108) := by kernel_rfl
theorem tyc110 : tyc Tryd.prog 110 = some (some 6) := by kernel_rfl
theorem foff110_0 : foff Tryd.prog 110 0 = some 0 := by kernel_rfl
theorem fpart110_0 : fpart Tryd.prog 110 0 = some (0, none) := by kernel_rfl
theorem foff110_1 : foff Tryd.prog 110 1 = some 1 := by kernel_rfl
theorem fpart110_1 : fpart Tryd.prog 110 1 = some (1, (some 5)) := by kernel_rfl
theorem zmb110 : zmb Tryd.prog 110 = some (.cells [(.lit (.slice none 0 0)), (.lit (.int .i64 0)), (.lit (.int .i64 0)), (.lit (.int .i64 0)), (.lit (.int .i64 0)), (.lit (.int .i64 0))] 6 110) := by kernel_rfl
theorem bldT110 : bldT Tryd.prog 110 = some ([(.slice none 0 0), (.int .i64 0), (.int .i64 0), (.int .i64 0), (.int .i64 0), (.int .i64 0)], [(0, 1), (1, 5)]) := by kernel_rfl
theorem tyc132 : tyc Tryd.prog 132 = some none := by kernel_rfl
theorem elt132 : elt Tryd.prog 132 = some (none, 1) := by kernel_rfl
theorem mkz132 : mkz Tryd.prog 132 = some (21, 4, .i32) := by kernel_rfl
theorem apT132 : apT Tryd.prog 132 = some (21, 1, 4) := by kernel_rfl
theorem elk132 : elk Tryd.prog 132 = (some .i32) := by kernel_rfl
theorem zmb132 : zmb Tryd.prog 132 = some (.cells [(.lit (.slice none 0 0))] 1 132) := by kernel_rfl
theorem tyc135 : tyc Tryd.prog 135 = some none := by kernel_rfl
theorem tyc138 : tyc Tryd.prog 138 = some none := by kernel_rfl
theorem elt138 : elt Tryd.prog 138 = some (none, 1) := by kernel_rfl
theorem mkz138 : mkz Tryd.prog 138 = some (3, 8, .i64) := by kernel_rfl
theorem apT138 : apT Tryd.prog 138 = some (3, 1, 8) := by kernel_rfl
theorem elk138 : elk Tryd.prog 138 = (some .i64) := by kernel_rfl
theorem zmb138 : zmb Tryd.prog 138 = some (.cells [(.lit (.slice none 0 0))] 1 138) := by kernel_rfl
theorem tyc143 : tyc Tryd.prog 143 = some (some 8) := by kernel_rfl
theorem foff143_0 : foff Tryd.prog 143 0 = some 0 := by kernel_rfl
theorem fpart143_0 : fpart Tryd.prog 143 0 = some (0, none) := by kernel_rfl
theorem foff143_1 : foff Tryd.prog 143 1 = some 1 := by kernel_rfl
theorem fpart143_1 : fpart Tryd.prog 143 1 = some (1, none) := by kernel_rfl
theorem foff143_2 : foff Tryd.prog 143 2 = some 2 := by kernel_rfl
theorem fpart143_2 : fpart Tryd.prog 143 2 = some (2, none) := by kernel_rfl
theorem foff143_3 : foff Tryd.prog 143 3 = some 3 := by kernel_rfl
theorem fpart143_3 : fpart Tryd.prog 143 3 = some (3, none) := by kernel_rfl
theorem foff143_4 : foff Tryd.prog 143 4 = some 4 := by kernel_rfl
theorem fpart143_4 : fpart Tryd.prog 143 4 = some (4, none) := by kernel_rfl
theorem foff143_5 : foff Tryd.prog 143 5 = some 5 := by kernel_rfl
theorem fpart143_5 : fpart Tryd.prog 143 5 = some (5, none) := by kernel_rfl
theorem foff143_6 : foff Tryd.prog 143 6 = some 6 := by kernel_rfl
theorem fpart143_6 : fpart Tryd.prog 143 6 = some (6, none) := by kernel_rfl
theorem foff143_7 : foff Tryd.prog 143 7 = some 7 := by kernel_rfl
theorem fpart143_7 : fpart Tryd.prog 143 7 = some (7, none) := by kernel_rfl
theorem zmb143 : zmb Tryd.prog 143 = some (.cells [(.lit (.string ⟨#[]⟩)), (.lit (.int .u32 0)), (.lit (.int .i64 0)), (.lit (.int .i64 0)), (.lit (.int .i64 0)), (.lit (.int .i64 0)), (.lit (.slice none 0 0)), (.lit (.slice none 0 0))] 8 143) := by kernel_rfl
theorem bldT143 : bldT Tryd.prog 143 = some ([(.string ⟨#[]⟩), (.int .u32 0), (.int .i64 0), (.int .i64 0), (.int .i64 0), (.int .i64 0), (.slice none 0 0), (.slice none 0 0)], [(0, 1), (1, 1), (2, 1), (3, 1), (4, 1), (5, 1), (6, 1), (7, 1)]) := by kernel_rfl
theorem tyc148 : tyc Tryd.prog 148 = some none := by kernel_rfl
theorem zmb148 : zmb Tryd.prog 148 = some (.cells [(.lit .nilFunc)] 1 148) := by kernel_rfl
theorem tyc150 : tyc Tryd.prog 150 = some none := by kernel_rfl
theorem zmb150 : zmb Tryd.prog 150 = some (.cells [(.lit (.int .u64 0))] 1 150) := by kernel_rfl
theorem tyc154 : tyc Tryd.prog 154 = some none := by kernel_rfl
theorem zmb154 : zmb Tryd.prog 154 = some (.cells [(.lit (.map none))] 1 154) := by kernel_rfl
theorem mixed : Tryd.prog.follows .mixedOrders = true := by kernel_rfl
end Go.Proofs.YtfknbndmabogjaaDoor
namespace Go.Proofs.YtfknbndmabogjaaDoor
open Go
set_option linter.unusedVariables false
set_option linter.unusedSimpArgs false
section
variable {P : Program} {cx : Cx} {n : Nat} {ops : Array Oper} {H : Hp}
theorem Ok.permH {env : List (Nat × AV)} {H H' : Hp} {a : Act} {w : World} (hp : H.Perm H') (ok : Ok cx n ⟨env, H⟩ a w) : Ok cx n ⟨env, H'⟩ a w :=
  ⟨ok.defers, ok.size, fun t => (ok.reps t).mono fun b hb => ⟨(imm_perm hp).1 hb, rfl⟩, ok.world.perm hp⟩
theorem fresh_app {E H : Hp} (h : ((E ++ H).map (·.1)).Nodup) : ∀ p ∈ E, fresh H p.1 := by
  intro p hp x hx
  rw [List.map_append, List.nodup_append] at h
  have := h.2.2 p.1 (List.mem_map_of_mem hp) x.1 (List.mem_map_of_mem hx)
  exact ⟨fun he => this he.symm, this⟩
def alF (P : Program) (n : Nat) (K : St → Prop) : List Oper → St → Prop
  | [], s => K s
  | o :: r, s => match o with
    | ⟨some t, .alloc T, _, _, _, none⟩ => match zmb P T with
      | some m => t < n ∧ newB s.H m fun b H => alF P n K r ⟨(t, pt b 0) :: s.env, H⟩
      | none => False
    | _ => False
def drawAF (P : Program) (n : Nat) (l : List Oper) (K : St → Prop) (p r : Nat) (s : St) : Prop :=
  dvc P n l.toArray (l.take p) (fun s1 => alF P n (fun s2 => rvc P n l.toArray (l.drop (p + r)) K s2) ((l.drop p).take r) s1) s
end
end Go.Proofs.YtfknbndmabogjaaDoor
namespace Go.Proofs.YtfknbndmabogjaaDoor
open Go
set_option linter.unusedSimpArgs false
set_option linter.unusedVariables false
section
variable {P : Program} {cx : Cx} {n : Nat} {ops : Array Oper} {H : Hp}
def drawSF (P : Program) (n : Nat) (l : List Oper) (K : St → Prop) (is k : Nat) (s : St) : Prop :=
  match l.drop is with
  | ⟨none, .store T a y, _, _, _, none⟩ :: q => match (og s.env a).2 with
    | .lit (.pointer (some ⟨b, off, none⟩)) => match hget s.H b with
      | some m0 => dvc P n l.toArray (l.take is) (fun s2 => (og s2.env a).1 ∧ (og s2.env a).2 = pt b off ∧ (og s2.env y).1 ∧ (stC P T m0 off (og s2.env y).2).1 ∧
          dvc P n l.toArray (q.take (k - is - 1)) (fun s3 => rvc P n l.toArray (q.drop (k - is - 1)) K ⟨s3.env, (b, (stC P T m0 off (og s2.env y).2).2) :: s3.H⟩) s2) ⟨s.env, hdel s.H b⟩
      | none => False
    | _ => False
  | _ => False
end
end Go.Proofs.YtfknbndmabogjaaDoor
namespace Go.Proofs.YtfknbndmabogjaaDoor
open Go
set_option linter.unusedSimpArgs false
set_option linter.unusedVariables false
section
variable {P : Program} {f : FuncId} {args : List AV} {H F F0 R : Hp} {post : AV → Hp → Prop}
theorem DCt.upd {b : Nat} {m : MB} {x : AV} (hg : hget H b = some m) (h : ACt P f args [(b, m)] (fun r F' => r = x ∧ F' = [(b, m)])) : DCt P f args H x :=
  ⟨[(b, m)], hdel H b, _, hget_perm hg, h, fun r F' hr _ => by obtain ⟨e1, e2⟩ := hr; subst e1 e2; exact ⟨rfl, (hget_perm hg).symm⟩⟩
theorem perm1 {b : Nat} {m : MB} (h : hget H b = some m) : H.Perm ([(b, m)] ++ hdel H b) := hget_perm h
theorem DCt.updN {x : AV} (hP : H.Perm (F ++ R)) (h : ACt P f args F (fun r F' => r = x ∧ F' = F)) : DCt P f args H x :=
  ⟨F, R, _, hP, h, fun r F' hr _ => by obtain ⟨e1, e2⟩ := hr; subst e1 e2; exact ⟨rfl, hP.symm⟩⟩
theorem CallV.updN {x : AV} (hP : H.Perm (F ++ R)) (h : ACt P f args F (fun r F' => r = x ∧ F' = F0)) (hp : post x (F0 ++ R)) : CallV P f args H post :=
  ⟨F, R, _, hP, h, fun r F' hr _ => by obtain ⟨e1, e2⟩ := hr; subst e1 e2; exact hp⟩
theorem fresh_perm {b : Nat} {m : MB} (hP : H.Perm (F ++ R)) (hk : F0.map (·.1) = F.map (·.1)) (hn : ((((b, m) :: F0) ++ R).map (·.1)).Nodup) : fresh H b := by
  intro p hp
  have hp' := hP.mem_iff.1 hp
  simp only [List.cons_append, List.map_cons, List.nodup_cons, List.map_append, List.mem_append] at hn
  have hne : p.1 ≠ b := by
    rintro rfl
    rcases List.mem_append.1 hp' with h | h
    · exact hn.1 (.inl (by rw [hk]; exact List.mem_map_of_mem h))
    · exact hn.1 (.inr (List.mem_map_of_mem h))
  exact ⟨hne, Ne.symm hne⟩
theorem CallV.ex {Γ : Type} {x : Γ → AV} {m : Γ → Hp} (hP : H.Perm (F ++ R)) (h : ACt P f args F (fun r F' => ∃ g, r = x g ∧ F' = m g)) (hp : ∀ g, post (x g) (m g ++ R)) : CallV P f args H post :=
  ⟨F, R, _, hP, h, fun r F' hr _ => by obtain ⟨g, e1, e2⟩ := hr; subst e1 e2; exact hp g⟩
theorem ExF.up {K : AV → Prop} {x : AV} (hP : ∃ R, H.Perm (F ++ R)) (h : ACt P f args F (fun r F' => r = x ∧ F' = F)) (hk : K x) : ExF P f args H K := let ⟨_, hP⟩ := hP; ExF.on (DCt.updN hP h) hk
theorem ExG.up {c : Bool} {K : AV → Prop} {x : AV} (hP : ∃ R, H.Perm (F ++ R)) (h : c = true → ACt P f args F (fun r F' => r = x ∧ F' = F)) (hk : K x) : ExG c P f args H K := let ⟨_, hP⟩ := hP; ExG.on (fun hc => DCt.updN hP (h hc)) hk
theorem ExG.upJ {c : Bool} {K : AV → Prop} {x : AV} {q : Prop} (hP : ∃ R, H.Perm (F ++ R)) (h : c = true → ACt P f args F (fun r F' => r = x ∧ F' = F)) (hk : K x) : ExG c P f args H K ∨ q := .inl (ExG.up hP h hk)
theorem ExG.upI {c : Bool} {K : AV → Prop} {x : AV} {q ob : Prop} (hP : ∃ R, H.Perm (F ++ R)) (h : c = true → ACt P f args F (fun r F' => r = x ∧ F' = F)) (ho : ob) (hk : K x) : (ob ∧ ExG c P f args H K) ∨ q := .inl ⟨ho, ExG.up hP h hk⟩
theorem CallV.updM {f : FuncId} {args : List AV} {H F F0 R : Hp} {post : AV → Hp → Prop} {x : AV} (h : ACt P f args F (fun r F' => r = x ∧ F' = F0)) (hP : H.Perm (F ++ R)) (hp : post x (F0 ++ R)) : CallV P f args H post := CallV.updN hP h hp
end
end Go.Proofs.YtfknbndmabogjaaDoor
namespace Go.Proofs.YtfknbndmabogjaaDoor
open Go
set_option linter.unusedSimpArgs false
set_option linter.unusedVariables false
section
variable {P : Program} {cx : Cx} {n : Nat} {ops : Array Oper}
def ECt (P : Program) (f : FuncId) (args : List AV) (E : Hp) (x : AV) (E' : Hp) : Prop :=
  ∃ F R F0, E.Perm (F ++ R) ∧ E' = F0 ++ R ∧ F0.map (·.1) = F.map (·.1) ∧ ACt P f args F (fun r F' => r = x ∧ F' = F0)
def calleeV (env : List (Nat × AV)) : Op → Option (Prop × FuncId × List AV)
  | .call c => match c.callee with
    | .value (.func f) => some ((ogs env c.args.toList).1, f, (ogs env c.args.toList).2)
    | _ => none
  | _ => none
def ExW (P : Program) (f : FuncId) (args : List AV) (E : Hp) (K : AV → Hp → Prop) (d : Hd K := .mk) : Prop := ∃ x E', ECt P f args E x E' ∧ K x E'
theorem ExW.mk {f : FuncId} {args : List AV} {E F R F0 : Hp} {K : AV → Hp → Prop} {x : AV} (hP : E.Perm (F ++ R)) (h : ACt P f args F (fun r F' => r = x ∧ F' = F0)) (hk : F0.map (·.1) = F.map (·.1)) (hK : K x (F0 ++ R)) : ExW P f args E K :=
  ⟨x, F0 ++ R, ⟨F, R, F0, hP, rfl, hk, h⟩, hK⟩
def xst (P : Program) (ops : Array Oper) (H : Hp) (o : Oper) (env : List (Nat × AV)) (K : AV → Prop) : Prop :=
  match o.guard with
  | none => match pev P H env o.op with
    | some r => r.1 ∧ K r.2
    | none => match calleeOf P env o.op with
      | some q => q.1 ∧ ExF P q.2.1 q.2.2 H fun x => K x
      | none => False
  | some (j, want) => match gdOf env ops j want with
    | some c => match pev P H env o.op with
      | some r => (c = true → r.1) ∧ K (.gd c r.2)
      | none => match calleeOf P env o.op with
        | some q => (c = true → q.1) ∧ ExG c P q.2.1 q.2.2 H fun x => K (.gd c x)
        | none => False
    | none => False
theorem xst_stdy {o : Oper} {env : List (Nat × AV)} {H : Hp} {K : AV → Prop} (hd : okd n o.dst) (h : xst P ops H o env K) : ∃ x, Stdy P cx n ops o env H x ∧ StdyE P cx n ops o env H x ∧ K x := by
  unfold xst at h
  split at h
  · rename_i hg
    split at h
    · rename_i r hr
      exact ⟨r.2, stdy_pev hd hg hr h.1, fun E hE => stdy_pev hd hg (pev_app hE hr h.1) h.1, h.2⟩
    · split at h
      · rename_i q hq
        obtain ⟨hob, x, h1, h2⟩ := h
        exact ⟨x, stdy_call hd hg (dcall_of (s := ⟨env, H⟩) hq hob h1), fun E hE => stdy_call hd hg (dcall_app (dcall_of (s := ⟨env, H⟩) hq hob h1)), h2⟩
      · exact h.elim
  · rename_i j want hg
    split at h
    · rename_i c hc
      split at h
      · rename_i r hr
        refine ⟨_, stdy_pevG hd hg hc hr h.1, fun E hE => ?_, h.2⟩
        by_cases hct : c = true
        · exact stdy_pevG hd hg hc (pev_app hE hr (h.1 hct)) h.1
        · refine ⟨hd, fun a w X R h1 h2 h3 h4 h5 => ?_⟩
          have ok := ok_renv h1 h2 h3 h4
          rw [wanted_of_gd ok hg (by rw [gdOf_renv hg]; exact hc)]
          rw [if_neg hct]
          have hcf : c = false := by cases c <;> simp_all
          subst hcf
          exact h5 undef w (.gdf _) h3 fun c hc => ⟨hc, rfl⟩
      · split at h
        · rename_i q hq
          obtain ⟨hob, x, h1, h2⟩ := h
          exact ⟨_, stdy_callG hd hg hc fun hct => dcall_of (s := ⟨env, H⟩) hq (hob hct) (h1 hct), fun E hE => stdy_callG hd hg hc fun hct => dcall_app (dcall_of (s := ⟨env, H⟩) hq (hob hct) (h1 hct)), h2⟩
        · exact h.elim
    · exact h.elim
def xvc (P : Program) (n : Nat) (ops : Array Oper) (ws ls : List Nat) (H0 : Hp) : Nat → List Oper → (List (Nat × AV) → Hp → Prop) → List (Nat × AV) → Hp → Prop
  | _, [], K, env, E => K env E
  | i, o :: rest, K, env, E => okd n o.dst ∧
    if i ∈ ws then o.guard = none ∧ match o.op with
      | .store T ad y => match (og env ad).2 with
        | .lit (.pointer (some ⟨b, off, none⟩)) => match hget E b with
          | some m => (og env ad).1 ∧ (og env y).1 ∧ (stC P T m off (og env y).2).1 ∧ xvc P n ops ws ls H0 (i + 1) rest K (putE env o.dst (.lit undef)) (hset E b (stC P T m off (og env y).2).2)
          | none => False
        | _ => False
      | _ => match calleeV env o.op with
        | some q => q.1 ∧ ExW P q.2.1 q.2.2 E fun x E' => xvc P n ops ws ls H0 (i + 1) rest K (putE env o.dst x) E'
        | none => False
    else xst P ops (if i ∈ ls then E ++ H0 else H0) o env fun x => xvc P n ops ws ls H0 (i + 1) rest K (putE env o.dst x) E
theorem SeqG.cons {C : Nat → Oper → AV → List (Nat × AV) → Prop} {o : Oper} {x : AV} {r : List (Oper × AV)} {env : List (Nat × AV)} (h0 : C 0 o x env) (h : SeqG (fun i => C (i + 1)) r (putE env o.dst x)) : SeqG C ((o, x) :: r) env := by
  have := SeqG.app (C := C) (A := [(o, x)]) (B := r) (env := env) (SeqG.one h0) (by
    simp only [envL, if_true, List.length_cons, List.length_nil]
    have e : (fun i => C (0 + 1 + i)) = fun i => C (i + 1) := by funext i; rw [show 0 + 1 + i = i + 1 by omega]
    rw [e]; exact h)
  exact this
/-! ### The order -/
theorem reach_of_ready {listed : Array Bool} (hc : Closed ops listed) {f i j : Nat} (hi : i ∈ Region.ready .any ops listed) (h : reach ops f i j = true) : listed.getD j false = true :=
  reach_listed hc f i j h fun oi' ho' m hw => ready_waits hi ho' hw
/-! ### Ahead of the parting, the parting, behind it -/
theorem head_to {k : Nat} {R : Exit → Act → World → Prop} {Inv : Array Bool → Act → World → Prop} (hle : k ≤ ops.size) (hback : ∀ (i : Nat) oi, ops[i]? = some oi → ∀ e ∈ oi.after, Region.binds .any e = true → e.on < i)
    (htail : ∀ listed a w, Inv listed a w → ∀ i, k ≤ i → i ∈ Region.ready .any ops listed → ∀ j, j < k → listed.getD j false = true)
    (hcl : ∀ listed a w, Inv listed a w → Closed ops listed) (hsz : ∀ listed a w, Inv listed a w → listed.size = ops.size)
    (hstep : ∀ listed a w i (X : Act → World → Prop), Inv listed a w → i ∈ Region.ready .any ops listed → i < k → (∀ a' w', Inv (listed.setIfInBounds i true) a' w' → X a' w') → wpOp P ops R i X a w) {g : Nat}
    (hfin : ∀ listed a w, Inv listed a w → (∀ j, j < k → listed.getD j false = true) → wpAny P .any ops R g listed a w) :
    ∀ (u : Nat) (listed : Array Bool) (a : Act) (w : World), ((List.range k).filter fun i => !listed.getD i false).length = u → Inv listed a w → wpAny P .any ops R (u + g) listed a w
  | 0, listed, a, w, hu, inv => by
    rw [Nat.zero_add]
    refine hfin listed a w inv fun j hj => ?_
    have := List.eq_nil_of_length_eq_zero hu
    rw [List.filter_eq_nil_iff] at this
    simpa using this j (List.mem_range.2 hj)
  | u + 1, listed, a, w, hu, inv => by
    have hls := hsz _ _ _ inv
    rw [show u + 1 + g = (u + g) + 1 by omega]
    obtain ⟨m, hm1, hm2⟩ : ∃ m, m < k ∧ listed.getD m false = false := by
      cases hf : ((List.range k).filter fun i => !listed.getD i false) with
      | nil => rw [hf] at hu; cases hu
      | cons m r =>
        have : m ∈ (List.range k).filter fun i => !listed.getD i false := by rw [hf]; exact List.mem_cons_self ..
        rw [List.mem_filter] at this
        exact ⟨m, List.mem_range.1 this.1, by simpa using this.2⟩
    obtain ⟨i0, h1, h2, h3⟩ := least (p := fun i => listed.getD i false) hm2
    have hi0 : i0 < ops.size := by omega
    have hready0 : i0 ∈ Region.ready .any ops listed := by
      refine mem_ready.2 ⟨by rw [getD_bool (by rw [hls]; exact hi0)]; exact h2, ops[i0], Array.getElem?_eq_getElem hi0, fun e he hb => h3 _ (hback i0 _ (Array.getElem?_eq_getElem hi0) e he hb)⟩
    refine ⟨fun h => (by rw [h] at hready0; cases hready0), fun i hi => ?_⟩
    obtain ⟨hun, oi, hoi, _⟩ := mem_ready.1 hi
    have hilt : i < ops.size := (Array.getElem?_eq_some_iff.1 hoi).1
    have hik : i < k := by
      rcases Nat.lt_or_ge i k with h | h
      · exact h
      · have := htail listed a w inv i h hi m hm1
        rw [hm2] at this
        cases this
    have hun' : listed.getD i false = false := by rw [← getD_bool (by rw [hls]; exact hilt)]; exact hun
    refine hstep listed a w i _ inv hi hik fun a' w' inv' => head_to hle hback htail hcl hsz hstep hfin u _ a' w' ?_ inv'
    have hcount : ∀ (l : List Nat), l.Nodup → i ∈ l → (l.filter fun j => !listed.getD j false).length = ((l.filter fun j => !(listed.setIfInBounds i true).getD j false).length) + 1 := by
      intro l
      induction l with
      | nil => intro _ h; cases h
      | cons c r ih =>
        intro hn hmem
        simp only [List.nodup_cons] at hn
        by_cases hci : c = i
        · subst hci
          have hset : (listed.setIfInBounds c true).getD c false = true := by
            have : c < listed.size := by rw [hls]; exact hilt
            simp [this]
          have hrest : (r.filter fun j => !listed.getD j false) = r.filter fun j => !(listed.setIfInBounds c true).getD j false := by
            refine List.filter_congr fun j hj => ?_
            have : j ≠ c := fun h => hn.1 (h ▸ hj)
            rw [getD_set_ne false (Ne.symm this)]
          rw [List.filter_cons, List.filter_cons, hun', hset, hrest]
          simp
        · have hmem' : i ∈ r := by rcases List.mem_cons.1 hmem with h | h; exact absurd h.symm hci; exact h
          have := ih hn.2 hmem'
          rw [List.filter_cons, List.filter_cons, getD_set_ne false (Ne.symm hci)]
          split
          · simp only [List.length_cons]; omega
          · exact this
    have := hcount (List.range k) List.nodup_range (List.mem_range.2 hik)
    omega
theorem Stdy.congr {o : Oper} {env env' : List (Nat × AV)} {H : Hp} {x : AV} (h : ∀ t, look env t = look env' t) (hS : Stdy P cx n ops o env H x) : Stdy P cx n ops o env' H x :=
  ⟨hS.1, fun a w X R h1 h2 h3 h4 h5 => hS.2 a w X R h1 h2 h3 (fun t ht => by rw [h t]; exact h4 t ht) h5⟩
def splitH : List Nat → Hp → Option (Hp × Hp)
  | [], H => some ([], H)
  | b :: bs, H => match hget H b with
    | some m => match splitH bs (hdel H b) with
      | some q => some ((b, m) :: q.1, q.2)
      | none => none
    | none => none
theorem splitH_perm : ∀ {bs : List Nat} {H : Hp} {q : Hp × Hp}, splitH bs H = some q → H.Perm (q.1 ++ q.2)
  | [], H, q, h => by cases h; exact .refl _
  | b :: bs, H, q, h => by
    unfold splitH at h
    split at h
    · rename_i m hm
      split at h
      · rename_i q' hq'
        cases h
        exact (hget_perm hm).trans (List.Perm.cons _ (splitH_perm hq'))
      · cases h
    · cases h
def drawCF (P : Program) (n : Nat) (l : List Oper) (K : St → Prop) (c : Nat) (ws ls bs : List Nat) (s : St) : Prop :=
  match splitH bs s.H with
  | some q => xvc P n l.toArray ws ls q.2 0 (l.take c) (fun env E => match l.drop c with
    | o :: r => okd n o.dst ∧ o.guard = none ∧ eff P o (fun s' => dvc P n l.toArray r K s') ⟨env, E ++ q.2⟩
    | [] => False) s.env q.1
  | none => False
end
end Go.Proofs.YtfknbndmabogjaaDoor
namespace Go.Proofs.YtfknbndmabogjaaDoor
open Go
set_option linter.unusedSimpArgs false
set_option linter.unusedVariables false
section
variable {P : Program} {cx : Cx} {n : Nat} {ops : Array Oper} {H : Hp}
theorem tail_to {k0 : Nat} (hback : ∀ (i : Nat) oi, ops[i]? = some oi → ∀ e ∈ oi.after, Region.binds .any e = true → e.on < i) (hr : ∀ i, k0 ≤ i → i < ops.size → ∀ j, k0 ≤ j → j < i → reach ops 12 i j = true) {R : Exit → Act → World → Prop} :
    ∀ (l : List Oper) (k : Nat) (listed : Array Bool) (a : Act) (w : World), k0 ≤ k → (∀ j, l[j]? = ops[k + j]?) → k + l.length = ops.size →
    listed.size = ops.size → (∀ j, j < ops.size → listed.getD j false = decide (j < k)) → wpList P ops R l a w → wpAny P .any ops R l.length listed a w
  | [], k, listed, a, w, hk, hl, hsz, hls, hlist, h => by
    refine ⟨?_, h⟩
    refine List.eq_nil_iff_forall_not_mem.2 fun j hj => ?_
    obtain ⟨h1, o, ho, _⟩ := mem_ready.1 hj
    have hjlt : j < ops.size := (Array.getElem?_eq_some_iff.1 ho).1
    have := hlist j hjlt
    rw [getD_bool (by omega), this] at h1
    simp at h1
    simp at hsz
    omega
  | o :: l, k, listed, a, w, hk, hl, hsz, hls, hlist, h => by
    have h0 : ops[k]? = some o := by simpa using (hl 0).symm
    have hklt : k < ops.size := (Array.getElem?_eq_some_iff.1 h0).1
    have hready : k ∈ Region.ready .any ops listed := by
      refine mem_ready.2 ⟨?_, o, h0, fun e he hb => ?_⟩
      · rw [getD_bool (by omega), hlist k hklt]; simp
      · have := hback k o h0 e he hb
        rw [hlist _ (by omega)]; simp; exact this
    refine ⟨fun h1 => (by rw [h1] at hready; cases hready), fun i hi => ?_⟩
    have hik : i = k := by
      obtain ⟨h1, oi, hoi, _⟩ := mem_ready.1 hi
      have hilt : i < ops.size := (Array.getElem?_eq_some_iff.1 hoi).1
      rw [getD_bool (by omega), hlist i hilt] at h1
      simp at h1
      by_cases h2 : i = k
      · exact h2
      · have hcl : Closed ops listed := fun j oj hj hl c hw => by
          obtain ⟨e, he, hb, rfl⟩ := waits_spec hw
          have h3 := hback j oj hj e he hb
          have h4 : j < ops.size := (Array.getElem?_eq_some_iff.1 hj).1
          rw [hlist j h4] at hl
          simp at hl
          rw [hlist _ (by omega)]
          simp; omega
        have := reach_of_ready hcl hi (hr i (by omega) hilt k hk (by omega))
        rw [hlist k hklt] at this
        simp at this
    subst hik
    have hw : wpOp P ops R i (wpList P ops R l) a w := by unfold wpOp; simp only [h0]; exact h
    refine wpOp_mono (fun a' w' h' => tail_to hback hr l (i + 1) _ a' w' (by omega) (fun j => by have := hl (j + 1); simpa [Nat.add_assoc, Nat.add_comm 1 j] using this) (by simp at hsz; omega) (by simp [hls]) (fun j hj => ?_) h') hw
    by_cases hji : j = i
    · subst hji
      have : j < listed.size := by omega
      simp [this]
    · rw [getD_set_ne false (Ne.symm hji), hlist j hj, Bool.eq_iff_iff]
      simp
      omega
def mkS (P : Program) (env : List (Nat × AV)) : Op → Option (Prop × MB × Nat)
  | .buildSlice T len parts => match apT P T with
    | some (e, sz, _) => match fillA (plN sz len 0) (List.replicate (len * sz) .any) (ogp env parts.toList).2 with
      | some cs => some ((ogp env parts.toList).1 ∧ len * sz ≤ 16777216, rowMB (elk P T) cs (len * sz) e, len)
      | none => none
    | none => none
  | _ => none
def drawMF (P : Program) (n : Nat) (l : List Oper) (K : St → Prop) (ia k : Nat) (s : St) : Prop :=
  match l with
  | ⟨some d, .move (.tmp x), _, _, _, none⟩ :: l1 => d < n ∧ dvc P n l.toArray (l1.take (ia - 1)) (fun s1 => match l1.drop (ia - 1) with
    | ⟨some t, op, _, _, _, none⟩ :: r => match mkS P s1.env op with
      | some q => t < n ∧ q.1 ∧ dvc P n l.toArray (r.take (k - ia - 1)) (fun s3 => newB s3.H q.2.1 fun b H => rvc P n l.toArray (r.drop (k - ia - 1)) K ⟨(t, ms b 0 q.2.2 q.2.2) :: s3.env, H⟩) ⟨(t, .any) :: s1.env, s1.H⟩
      | none => False
    | _ => False) ⟨(d, look s.env x) :: s.env, s.H⟩
  | _ => False
end
end Go.Proofs.YtfknbndmabogjaaDoor
namespace Go.Proofs.YtfknbndmabogjaaDoor
open Go
set_option linter.unusedSimpArgs false
set_option linter.unusedVariables false
section
variable {P : Program} {cx : Cx} {n : Nat} {ops : Array Oper}
def WCt (P : Program) (f : FuncId) (args : List AV) (E H0 : Hp) (post : AV → Hp → Prop) (d : Hd post := .mk) : Prop :=
  ∃ F R p, E.Perm (F ++ R) ∧ ACt P f args F p ∧ ∀ r F', p r F' → (((F' ++ R) ++ H0).map (·.1)).Nodup → post r (F' ++ R)
theorem run_wct {f : FuncId} {args : List AV} {env : List (Nat × AV)} {E H0 : Hp} {post : AV → Hp → Prop} {a : Act} {w : World} {vs : Array Value} (ok : Ok cx n ⟨env, E ++ H0⟩ a w) (h : WCt P f args E H0 post) (hs : vs.size = args.length)
    (hv : ∀ i, i < args.length → Rep w (imm cx w (E ++ H0)) (vs.getD i undef) (args.getD i .any)) :
    CallX P f vs w fun e w' => ∃ v x E', e = .returned v ∧ post x E' ∧ (∀ y ∈ E', fresh H0 y.1) ∧ Rep w' (imm cx w' (E' ++ H0)) v x ∧ OkW cx (E' ++ H0) w' ∧
      ∀ c, imm cx w (E ++ H0) c → imm cx w' (E' ++ H0) c ∧ w'.heap[c]? = w.heap[c]? := by
  obtain ⟨F, R, p, hP0, hct, hpost⟩ := h
  have hP : (E ++ H0).Perm (F ++ (R ++ H0)) := by rw [← List.append_assoc]; exact hP0.append_right H0
  have hw := ok.world.perm hP
  have hIp : ∀ b, imm cx w (E ++ H0) b → imm cx w (F ++ (R ++ H0)) b := fun b hb => (imm_perm hP).1 hb
  have hI : ∀ b, imm cx w (E ++ H0) b → b < w.heap.size ∧ (b ∉ F.map (·.1) ∨ b ∈ roK F) := fun b hb => ⟨imm_lt hw.ext.size hb, imm_out hw (hIp b hb)⟩
  have hT := roK_lt hw
  have hnd := hw.nodup
  rw [List.map_append, List.nodup_append] at hnd
  have := hct ⟨w, imm cx w (E ++ H0), F.map (·.1), roK F, hI, hT⟩ vs rfl rfl ⟨hnd.1, fun x hx => .inl (List.mem_map_of_mem hx), fun x hx => (hw.mem x (List.mem_append_left _ hx)).mono (fun b hb => ⟨.inl ((imm_perm hP).2 hb), rfl⟩) rfl,
    ⟨rfl, rfl, rfl, Nat.le_refl _, fun _ _ _ => rfl⟩, roK_ro hnd.1⟩ hs hv
  refine this.mono ?_
  rintro e w' ⟨v, r, F', he, hp, hw', hr⟩
  obtain ⟨c1, c2, c3⟩ := call_frame hIp hw hw'
  rw [show F' ++ (R ++ H0) = F' ++ R ++ H0 from (List.append_assoc ..).symm] at c1 c2 c3
  exact ⟨v, r, F' ++ R, he, hpost r F' hp c1.nodup, fresh_app c1.nodup, hr.mono fun b hb => ⟨c3 b hb, rfl⟩, c1, fun c hc => c2 c (hIp c hc)⟩
theorem effW_call {o : Oper} {env : List (Nat × AV)} {E H0 : Hp} {post : AV → Hp → Prop} {q : Prop × FuncId × List AV} (hc : calleeV env o.op = some q) (hq : q.1) (h : WCt P q.2.1 q.2.2 E H0 post)
    {a : Act} {w : World} {X : Act → World → Prop} {R : Exit → Act → World → Prop} (h1 : a.defers = []) (h2 : a.tmps.size = n) (h3 : OkW cx (E ++ H0) w)
    (h4 : ∀ t ∈ o.looksAt ops, Rep w (imm cx w (E ++ H0)) (a.tmps.getD t undef) (look env t))
    (h5 : ∀ v x E' w', post x E' → (∀ y ∈ E', fresh H0 y.1) → Rep w' (imm cx w' (E' ++ H0)) v x → OkW cx (E' ++ H0) w' → (∀ c, imm cx w (E ++ H0) c → imm cx w' (E' ++ H0) c ∧ w'.heap[c]? = w.heap[c]?) → X (a.put o.dst v) w') : o.wp P a w X R := by
  have ok := ok_renv h1 h2 h3 h4
  have hre := opd_renv (ops := ops) (o := o) (env := env)
  obtain ⟨dst, op, type, pos, after, guard⟩ := o
  simp only at hc h5 hre ok
  unfold calleeV at hc
  split at hc
  · rename_i cl
    obtain ⟨callee, args, ts⟩ := cl
    simp only at hc
    split at hc
    · rename_i f
      simp only [Option.some.injEq] at hc
      subst hc
      simp only at hq h
      have he : ogs env args.toList = ogs (renv env (Oper.looksAt ops ⟨dst, .call ⟨.value (.func f), args, ts⟩, type, pos, after, guard⟩)) args.toList :=
        ogs_congr fun x hx => hre x (by simp [Op.operands, Call.operands]; exact .inr (by simpa using hx))
      rw [he] at hq h
      have hlen := ogs_length (env := renv env (Oper.looksAt ops ⟨dst, .call ⟨.value (.func f), args, ts⟩, type, pos, after, guard⟩)) args.toList
      have := run_wct (vs := args.map a.eval) ok h (by rw [hlen]; simp) (fun i hi => by
        have := ok.ogs hq i (by rw [hlen] at hi; exact hi)
        simpa [List.getD] using this)
      unfold Oper.wp
      have hrun : (execOp a.eval ⟨dst, .call ⟨.value (.func f), args, ts⟩, type, pos, after, guard⟩).run P w = (callFunc f (args.map a.eval)).run P w := by
        simp only [execOp, resolve, Act.eval, Deferred.ofValue, Sem.run_bind, Sem.run_pure, Result.andThen_ok, invoke, Array.append_empty, Array.empty_append]
        try simp
      refine this.upon hrun ?_
      rintro e w' ⟨v, x, E', rfl, hp, hf, hrep, c1, c2⟩
      exact ⟨_, rfl, h5 v x E' w' hp hf hrep c1 c2⟩
    · cases hc
  · cases hc
def drawWF (P : Program) (n : Nat) (l : List Oper) (K : St → Prop) (c k : Nat) (bs : List Nat) (s : St) : Prop :=
  match splitH bs s.H with
  | some q => dvc P n l.toArray (l.take c) (fun s1 => match l.drop c with
    | ⟨some t, op, _, _, _, none⟩ :: r => t < n ∧ match calleeV s1.env op with
      | some g => g.1 ∧ dvc P n l.toArray (r.take (k - c - 1)) (fun s3 => WCt P g.2.1 g.2.2 q.1 q.2 fun x E' => rvc P n l.toArray (r.drop (k - c - 1)) K ⟨(t, x) :: s3.env, E' ++ q.2⟩) ⟨(t, .any) :: s1.env, s1.H⟩
      | none => False
    | _ => False) ⟨s.env, q.2⟩
  | none => False
theorem WCt.row {f : FuncId} {args : List AV} {E H0 : Hp} {b : Nat} {m : MB} {k : IntKind} {ty : TypeId} {zs : List Int} {post : AV → Hp → Prop} (hg : hget E b = some m) (h : ACt P f args [(b, m)] (Row k ty zs))
    (hp : Nu fun b' => Nu fun cap' => Fr (zs.length ≤ cap' ∧ cap' ≤ maxLen ∧ fresh (hdel E b ++ H0) b') (post (ms b' 0 zs.length cap') ((b', .zs k zs cap' ty) :: hdel E b))) : WCt P f args E H0 post := by
  refine ⟨[(b, m)], hdel E b, _, hget_perm hg, h, ?_⟩
  rintro r F' ⟨b', cap', h1, h2, rfl, rfl⟩ hn
  exact ((hp.out b').out cap').out ⟨h1, h2, fresh_of_nodup hn⟩
theorem ACt.fz {f : FuncId} {args : List AV} {F F0 : Hp} {k : IntKind} {ty : TypeId} {zs : List Int}
    (h : ACt P f args F (fun r F' => ∃ q : {p : Nat × Nat // zs.length ≤ p.2 ∧ p.2 ≤ 9223372036854775807}, r = ms q.1.1 0 zs.length q.1.2 ∧ F' = (q.1.1, .zs k zs q.1.2 ty) :: F0)) :
    ACt P f args F (fun r F' => r = .slz k zs ∧ F' = F0) := by
  intro cx vs h1 h1' h2 h3 h4
  refine (h cx vs h1 h1' h2 h3 h4).mono ?_
  rintro e w' ⟨v, r, F', he, ⟨q, rfl, rfl⟩, hw, hr⟩
  have hv := hr.lit_inv
  have hp : OkW cx (F0 ++ [(q.1.1, .zs k zs q.1.2 ty)]) w' := hw.perm (List.perm_append_comm (l₁ := [(q.1.1, MB.zs k zs q.1.2 ty)]))
  obtain ⟨d1, d2⟩ := hp.drop
  refine ⟨v, _, F0, he, ⟨rfl, rfl⟩, d1, ?_⟩
  rw [hv]
  have hm := hw.mem _ (List.mem_cons_self ..)
  have hlt := hm.lt
  obtain ⟨cur, e1, e2, e3, e4⟩ := hm
  have hn := hw.nodup
  simp only [List.map_cons, List.nodup_cons] at hn
  refine .slz _ _ _ _ q.2.1 (by rw [maxLen_eq]; exact q.2.2) (.inr ⟨q.1.1, 0, rfl, .inr ⟨hw.keys _ (List.mem_cons_self ..), hlt, fun x hx he => hn.1 (List.mem_map.2 ⟨x, hx, he⟩)⟩, fun i hi => ?_⟩)
  rw [Nat.zero_add, cell_of_block e1, e4 i hi]
theorem ACt.fzRow {f : FuncId} {args : List AV} {F : Hp} {k : IntKind} {ty : TypeId} {zs : List Int} (h : ACt P f args F (Row k ty zs)) : ACt P f args F (fun r F' => r = .slz k zs ∧ F' = []) := by
  refine ACt.fz (ty := ty) (h.mono ?_)
  rintro r F' ⟨b, cap, h1, h2, rfl, rfl⟩
  exact ⟨⟨(b, cap), h1, by rw [maxLen_eq] at h2; exact h2⟩, rfl, rfl⟩
end
end Go.Proofs.YtfknbndmabogjaaDoor
