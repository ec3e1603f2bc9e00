/-
  The walks and the laws that the statement leans on, part 8.
-/
import Derived.ChangeReads
import Derived.Laws.Externs
import Derived.Test.YtpidkkgjgichdaaDoorProg
import Derived.Test.YtpidkkgjgichdaaDoorZ7
namespace Go.Proofs.YtpidkkgjgichdaaDoor
open Go
set_option linter.unusedSimpArgs false
set_option linter.unusedVariables false
inductive Ty where
  | int (k : IntKind)
  | bool
  | str
  | row (k : IntKind)
  | sl (e : Ty)
  | st (fs : List Ty)
mutual
def Shp : Ty → List AV → Prop
  | .int k, xs => ∃ n, xs = [iv k n] ∧ (Lit.int k n).wf = true
  | .bool, xs => ∃ b, xs = [bv b]
  | .str, xs => ∃ s, xs = [.lit (.string s)] ∧ s.size ≤ maxLen
  | .row k, xs => ∃ zs : List Int, xs = [.slz k zs] ∧ ∀ n ∈ zs, (Lit.int k n).wf = true
  | .sl e, xs => ∃ rows : List (List AV), xs = [.sl rows.length rows.flatten] ∧ ∀ r ∈ rows, Shp e r
  | .st fs, xs => ShpL fs xs
def ShpL : List Ty → List AV → Prop
  | [], xs => xs = []
  | t :: ts, xs => ∃ a b, xs = a ++ b ∧ Shp t a ∧ ShpL ts b
end
def fsOk (P : Program) (r : TypeId → Ty → Bool) (total : Nat) : Nat → List Field → List Ty → Bool
  | off, [], [] => off == total
  | off, f :: fs, t :: ts => f.offset == off && r f.type t && fsOk P r total (off + P.cellsOf f.type) fs ts
  | _, _, _ => false
def tyOk (P : Program) : Nat → TypeId → Ty → Bool
  | 0, _, _ => false
  | d + 1, T, ty => match P.underlying T with
    | some (.int k) => match ty with
      | .int k' => decide (k = k') && P.cellsOf T == 1
      | _ => false
    | some .bool => match ty with
      | .bool => P.cellsOf T == 1
      | _ => false
    | some .string => match ty with
      | .str => P.cellsOf T == 1
      | _ => false
    | some (.slice e) => match ty with
      | .row k => (match P.underlying e with
        | some (.int k') => decide (k = k')
        | _ => false) && P.cellsOf e == 1 && P.cellsOf T == 1
      | .sl ety => tyOk P d e ety && P.cellsOf T == 1
      | _ => false
    | some (.struct fs) => match ty with
      | .st tys => fsOk P (tyOk P d) (P.cellsOf T) 0 fs.toList tys
      | _ => false
    | _ => false
theorem mapM_some {α β : Type} {f : α → Option β} : ∀ {l : List α} {ys : List β}, l.mapM f = some ys → ys.length = l.length ∧ ∀ i (h : i < l.length) (h' : i < ys.length), f l[i] = some ys[i]
  | [], ys, h => by
    simp at h
    subst h
    exact ⟨rfl, fun i h => by simp at h⟩
  | x :: r, ys, h => by
    rw [List.mapM_cons] at h
    cases hx : f x with
    | none => rw [hx] at h; simp at h
    | some y =>
      rw [hx] at h
      cases hr : r.mapM f with
      | none => rw [hr] at h; simp at h
      | some zs =>
        rw [hr] at h
        simp at h
        subst h
        obtain ⟨h1, h2⟩ := mapM_some hr
        refine ⟨by simp [h1], fun i hi hi' => ?_⟩
        cases i with
        | zero => simpa using hx
        | succ i => simpa using h2 i (by simpa using hi) (by simpa using hi')
theorem flatten_get {sz : Nat} : ∀ {rows : List (List AV)}, (∀ r ∈ rows, r.length = sz) → rows.flatten.length = rows.length * sz ∧ ∀ i j (hi : i < rows.length) (hj : j < sz), rows.flatten.getD (i * sz + j) .any = (rows.getD i []).getD j .any
  | [], _ => ⟨by simp, fun i j hi => by simp at hi⟩
  | r :: rs, h => by
    have hr := h r (List.mem_cons_self ..)
    obtain ⟨h1, h2⟩ := flatten_get (rows := rs) fun q hq => h q (List.mem_cons_of_mem _ hq)
    refine ⟨by simp [h1, hr, Nat.succ_mul]; omega, fun i j hi hj => ?_⟩
    cases i with
    | zero =>
      simp only [List.flatten_cons, Nat.zero_mul, Nat.zero_add, List.getD, List.getElem?_cons_zero, Option.getD_some]
      rw [List.getElem?_append_left (by omega)]
    | succ i =>
      have := h2 i j (by simpa using hi) hj
      simp only [List.flatten_cons, List.getD] at this ⊢
      rw [List.getElem?_append_right (by rw [hr, Nat.succ_mul]; omega)]
      rw [show (i + 1) * sz + j - r.length = i * sz + j by rw [hr, Nat.succ_mul]; omega]
      simpa using this
section
variable {H : Type} {enc : TypeId × Value → H} {P : Program} {w : World} {spare : Nat → Bool} {held : Bool}
def Opens (w : World) (ty : Ty) (sz : Nat) (cs : List Value) : Prop :=
  ∃ xs, Shp ty xs ∧ xs.length = sz ∧ cs.length = sz ∧ ∀ i (hi : i < xs.length), Rep w (fun b => b < w.heap.size) (cs.getD i undef) xs[i]
theorem cells?_some {a : Addr} {n : Nat} {cs : List Value} (h : w.cells? 0 a n = some cs) : cs.length = n ∧ ∀ j, j < n → w.cell? (a.add j) = some (cs.getD j undef) := by
  unfold World.cells? at h
  rw [if_pos (Nat.zero_le _)] at h
  obtain ⟨h1, h2⟩ := mapM_some h
  simp only [List.length_range] at h1
  refine ⟨h1, fun j hj => ?_⟩
  have := h2 j (by simpa using hj) (by omega)
  simp only [List.getElem_range] at this
  rw [this]
  simp [List.getD, show j < cs.length by omega]
theorem add_at {a : Addr} {v : Value} (h : w.cell? (a.add 0) = some v) : a.block < w.heap.size ∧ ∃ b off, a = ⟨b, off, none⟩ := by
  have := World.cell?_lt h
  unfold Addr.add at this
  rw [if_pos rfl] at this
  obtain ⟨h1, h2⟩ := this
  obtain ⟨b, off, sp⟩ := a
  simp only at h1 h2
  subst h2
  exact ⟨h1, b, off, rfl⟩
theorem opens_elems {e : TypeId} {fuel len : Nat} {a : Addr} {elems : List (DataW H × List MemPlace)} {Q : Nat → List Value → Prop} (hc : 0 < P.cellsOf e)
    (hm : ((List.range len).mapM fun i => (w.cells? 0 (a.add (i * P.cellsOf e)) (P.cellsOf e)).bind (DataW.trod enc P w 0 spare held fuel e)) = some elems)
    (hQ : ∀ (i : Nat) (cs : List Value) (r : DataW H × List MemPlace), DataW.trod enc P w 0 spare held fuel e cs = some r → Q i cs) :
    len = 0 ∨ ∃ b off, a = ⟨b, off, none⟩ ∧ b < w.heap.size ∧ ∀ i, i < len → ∃ cs, cs.length = P.cellsOf e ∧ Q i cs ∧ ∀ j, j < P.cellsOf e → w.cell? ⟨b, off + (i * P.cellsOf e + j), none⟩ = some (cs.getD j undef) := by
  obtain ⟨h1, h2⟩ := mapM_some hm
  have hel : ∀ i, i < len → ∃ cs, cs.length = P.cellsOf e ∧ Q i cs ∧ ∀ j, j < P.cellsOf e → w.cell? ((a.add (i * P.cellsOf e)).add j) = some (cs.getD j undef) := by
    intro i hi
    have := h2 i (by simpa using hi) (by simp at h1; omega)
    simp only [List.getElem_range] at this
    cases hc : w.cells? 0 (a.add (i * P.cellsOf e)) (P.cellsOf e) with
    | none => rw [hc] at this; simp at this
    | some cs =>
      rw [hc] at this
      obtain ⟨g1, g2⟩ := cells?_some hc
      exact ⟨cs, g1, hQ i cs _ this, g2⟩
  by_cases h0 : len = 0
  · exact .inl h0
  · obtain ⟨cs0, _, _, g⟩ := hel 0 (by omega)
    have g0 := g 0 hc
    rw [Nat.zero_mul] at g0
    have g0' : w.cell? (a.add 0) = some (cs0.getD 0 undef) := by
      have : (a.add 0).add 0 = a.add 0 := by simp [Addr.add]
      rw [this] at g0
      exact g0
    obtain ⟨hb, b, off, rfl⟩ := add_at g0'
    refine .inr ⟨b, off, rfl, hb, fun i hi => ?_⟩
    obtain ⟨cs, c1, c2, c3⟩ := hel i hi
    refine ⟨cs, c1, c2, fun j hj => ?_⟩
    have := c3 j hj
    rw [Addr.add_none, Addr.add_none] at this
    rw [← Nat.add_assoc]
    exact this
theorem choose_list {α : Type} {R : Nat → α → Prop} : ∀ (n : Nat), (∀ i, i < n → ∃ x, R i x) → ∃ l : List α, l.length = n ∧ ∀ i (h : i < l.length), R i l[i]
  | 0, _ => ⟨[], rfl, fun i h => by simp at h⟩
  | n + 1, h => by
    obtain ⟨l, h1, h2⟩ := choose_list n fun i hi => h i (by omega)
    obtain ⟨x, hx⟩ := h n (by omega)
    refine ⟨l ++ [x], by simp [h1], fun i hi => ?_⟩
    by_cases hlt : i < l.length
    · rw [List.getElem_append_left hlt]; exact h2 i hlt
    · rw [List.getElem_append_right (by omega)]
      have : i = n := by simp at hi; omega
      subst this
      simpa [h1] using hx
theorem opens_fields {d : Nat} (ih : ∀ (ty : Ty) (T : TypeId) (fuel : Nat) (cs : List Value) (r : DataW H × List MemPlace), tyOk P d T ty = true → DataW.trod enc P w 0 spare held fuel T cs = some r → Opens w ty (P.cellsOf T) cs)
    {cs : List Value} {fuel total : Nat} (hcs : cs.length = total) : ∀ (fs : List Field) (tys : List Ty) (off : Nat) (rs : List (DataW H × List MemPlace)), fsOk P (tyOk P d) total off fs tys = true →
      (fs.mapM fun f => DataW.trod enc P w 0 spare held fuel f.type ((cs.drop f.offset).take (P.cellsOf f.type))) = some rs → off ≤ total ∧ ∃ xs, ShpL tys xs ∧ xs.length = total - off ∧ ∀ i (hi : i < xs.length), Rep w (fun b => b < w.heap.size) (cs.getD (off + i) undef) xs[i]
  | [], [], off, rs, h, _ => by
    simp only [fsOk, beq_iff_eq] at h
    refine ⟨by omega, [], by simp [ShpL], by simp; omega, fun i hi => by simp at hi⟩
  | f :: fs, t :: ts, off, rs, h, hr => by
    simp only [fsOk, Bool.and_eq_true, beq_iff_eq] at h
    obtain ⟨⟨h1, h2⟩, h3⟩ := h
    rw [List.mapM_cons] at hr
    cases hx : DataW.trod enc P w 0 spare held fuel f.type ((cs.drop f.offset).take (P.cellsOf f.type)) with
    | none => rw [hx] at hr; simp at hr
    | some y =>
      rw [hx] at hr
      cases hrr : (fs.mapM fun f => DataW.trod enc P w 0 spare held fuel f.type ((cs.drop f.offset).take (P.cellsOf f.type))) with
      | none => rw [hrr] at hr; simp at hr
      | some zs =>
        obtain ⟨hle, xs2, s2, l2, r2⟩ := opens_fields ih hcs fs ts _ zs h3 hrr
        obtain ⟨xs1, s1, l1, c1, r1⟩ := ih t f.type fuel _ y h2 hx
        refine ⟨by omega, xs1 ++ xs2, ⟨xs1, xs2, rfl, s1, s2⟩, by simp [l1, l2]; omega, fun i hi => ?_⟩
        by_cases hlt : i < xs1.length
        · rw [List.getElem_append_left hlt]
          have := r1 i hlt
          have e : ((cs.drop f.offset).take (P.cellsOf f.type)).getD i undef = cs.getD (off + i) undef := by
            simp only [List.getD, List.getElem?_take, List.getElem?_drop, h1]
            rw [if_pos (by omega)]
          rw [e] at this
          exact this
        · rw [List.getElem_append_right (by omega)]
          have hi2 : i - xs1.length < xs2.length := by simp at hi; omega
          have := r2 (i - xs1.length) hi2
          rw [show off + P.cellsOf f.type + (i - xs1.length) = off + i by omega] at this
          exact this
  | [], _ :: _, _, _, h, _ => by simp [fsOk] at h
  | _ :: _, [], _, _, h, _ => by simp [fsOk] at h
theorem opens : ∀ (d : Nat) (ty : Ty) (T : TypeId) (fuel : Nat) (cs : List Value) (r : DataW H × List MemPlace), tyOk P d T ty = true → DataW.trod enc P w 0 spare held fuel T cs = some r → Opens w ty (P.cellsOf T) cs
  | 0, _, _, _, _, _, h, _ => by simp [tyOk] at h
  | d + 1, ty, T, 0, cs, r, _, hr => by simp [DataW.trod] at hr
  | d + 1, ty, T, fuel + 1, cs, r, h, hr => by
    have ih := opens d
    rw [DataW.trod_step] at hr
    unfold tyOk at h
    unfold DataW.trodStep at hr
    cases hu : P.underlying T with
    | none => rw [hu] at h; cases h
    | some td =>
      rw [hu] at h hr
      cases td with
      | int k =>
        cases ty <;> simp only at h <;> try (cases h)
        rename_i k'
        simp only [Bool.and_eq_true, decide_eq_true_eq, beq_iff_eq] at h
        obtain ⟨rfl, hc⟩ := h
        split at hr <;> first | (rename_i he _; cases he; done) | skip
        all_goals (first | (simp at *; done) | skip)
        rename_i k2 k3 n heq
        simp only [Option.some.injEq, TypeDesc.int.injEq] at heq
        subst heq
        split at hr
        · rename_i hk
          obtain ⟨rfl, hwf⟩ := hk
          exact ⟨[iv k3 n], ⟨n, rfl, hwf⟩, by simp [hc], by simp [hc], fun i hi => by
            have : i = 0 := by simp at hi; omega
            subst this
            exact .lit _⟩
        · cases hr
      | bool =>
        cases ty <;> simp only at h <;> try (cases h)
        simp only [beq_iff_eq] at h
        split at hr <;> first | (simp at *; done) | skip
        all_goals (first | (simp_all; done) | skip)
        rename_i b heq
        exact ⟨[bv b], ⟨b, rfl⟩, by simp [h], by simp [h], fun i hi => by
          have : i = 0 := by simp at hi; omega
          subst this
          exact .lit _⟩
      | string =>
        cases ty <;> simp only at h <;> try (cases h)
        simp only [beq_iff_eq] at h
        split at hr <;> first | (simp at *; done) | skip
        all_goals (first | (simp_all; done) | skip)
        rename_i s heq
        split at hr
        · rename_i hs
          exact ⟨[.lit (.string s)], ⟨s, rfl, hs⟩, by simp [h], by simp [h], fun i hi => by
            have : i = 0 := by simp at hi; omega
            subst this
            exact .lit _⟩
        · cases hr
      | slice e =>
        have hcs : (cs = [.slice none 0 0]) ∨ ∃ a len cap elems, cs = [.slice (some a) len cap] ∧ len ≤ cap ∧ cap ≤ maxLen ∧
            ((List.range len).mapM fun i => (w.cells? 0 (a.add (i * P.cellsOf e)) (P.cellsOf e)).bind (DataW.trod enc P w 0 spare held fuel e)) = some elems := by
          split at hr <;> first | (exfalso; simp at *; done) | skip
          all_goals (first | (left; rfl) | skip)
          all_goals (first | (exfalso; simp_all; done) | skip)
          rename_i e' a len cap heq
          simp only [Option.some.injEq, TypeDesc.slice.injEq] at heq
          subst heq
          split at hr
          · rename_i hk
            cases hm : ((List.range len).mapM fun i => (w.cells? 0 (a.add (i * P.cellsOf e)) (P.cellsOf e)).bind (DataW.trod enc P w 0 spare held fuel e)) with
            | none => simp [hm] at hr
            | some elems => exact .inr ⟨a, len, cap, elems, rfl, hk.2.1, hk.2.2, hm⟩
          · cases hr
        cases ty <;> simp only at h <;> try (cases h)
        · rename_i k
          simp only [Bool.and_eq_true, beq_iff_eq] at h
          obtain ⟨⟨h1, h2⟩, h3⟩ := h
          have hue : P.underlying e = some (.int k) := by
            split at h1
            · rename_i k' hk; rw [hk]; simp at h1; rw [h1]
            · cases h1
          rcases hcs with rfl | ⟨a, len, cap, elems, rfl, hl, hm, hel⟩
          · exact ⟨[.slz k []], ⟨[], rfl, by simp⟩, by simp [h3], by simp [h3], fun i hi => by
              have : i = 0 := by simp at hi; omega
              subst this
              exact Rep.nilz (.lit _)⟩
          · have hz : ∃ zs : List Int, zs.length = len ∧ (∀ n ∈ zs, (Lit.int k n).wf = true) ∧ Spot w (fun b => b < w.heap.size) (some a) zs.length (fun i => .int k (zs.getD i 0)) := by
              rcases opens_elems (Q := fun _ cs => ∃ n, cs = [.int k n] ∧ (Lit.int k n).wf = true) (by omega) hel (fun i cs r htr => by
                cases fuel with
                | zero => simp [DataW.trod] at htr
                | succ fuel =>
                  rw [DataW.trod_step] at htr
                  unfold DataW.trodStep at htr
                  rw [hue] at htr
                  split at htr <;> first | (exfalso; simp at *; done) | skip
                  all_goals (first | (exfalso; simp_all; done) | skip)
                  rename_i k2 k3 n heq
                  simp only [Option.some.injEq, TypeDesc.int.injEq] at heq
                  subst heq
                  split at htr
                  · rename_i hk
                    obtain ⟨rfl, hwf⟩ := hk
                    exact ⟨n, rfl, hwf⟩
                  · cases htr) with h0 | ⟨b, off, rfl, hb, hall⟩
              · exact ⟨[], by simp [h0], by simp, .inl rfl⟩
              · obtain ⟨zs, z1, z2⟩ := choose_list (R := fun i n => (Lit.int k n).wf = true ∧ w.cell? ⟨b, off + i, none⟩ = some (.int k n)) len fun i hi => by
                  obtain ⟨cs, c1, ⟨n, rfl, hwf⟩, c3⟩ := hall i hi
                  have := c3 0 (by omega)
                  rw [h2] at this
                  exact ⟨n, hwf, by simpa using this⟩
                refine ⟨zs, z1, fun n hn => ?_, .inr ⟨b, off, rfl, hb, fun i hi => ?_⟩⟩
                · obtain ⟨i, hi, rfl⟩ := List.getElem_of_mem hn
                  exact (z2 i hi).1
                · rw [(z2 i hi).2]
                  simp [List.getD, hi]
            obtain ⟨zs, z1, z2, z3⟩ := hz
            refine ⟨[.slz k zs], ⟨zs, rfl, z2⟩, by simp [h3], by simp [h3], fun i hi => ?_⟩
            have : i = 0 := by simp at hi; omega
            subst this
            have := Rep.slz (some a) k zs cap (by omega) hm z3
            rw [z1] at this
            exact this
        · rename_i ety
          simp only [Bool.and_eq_true, beq_iff_eq] at h
          obtain ⟨h1, h3⟩ := h
          rcases hcs with rfl | ⟨a, len, cap, elems, rfl, hl, hm, hel⟩
          · exact ⟨[.sl 0 []], ⟨[], rfl, by simp⟩, by simp [h3], by simp [h3], fun i hi => by
              have : i = 0 := by simp at hi; omega
              subst this
              exact Rep.nils (.lit _)⟩
          · by_cases hc0 : P.cellsOf e = 0
            · obtain ⟨m1, m2⟩ := mapM_some hel
              have hrows : ∀ i, i < len → ∃ xs : List AV, Shp ety xs ∧ xs.length = 0 := fun i hi => by
                have := m2 i (by simpa using hi) (by simp at m1; omega)
                simp only [List.getElem_range] at this
                cases hcc : w.cells? 0 (a.add (i * P.cellsOf e)) (P.cellsOf e) with
                | none => rw [hcc] at this; simp at this
                | some cs =>
                  rw [hcc] at this
                  obtain ⟨xs, s1, s2, _⟩ := ih ety e fuel cs _ h1 this
                  exact ⟨xs, s1, by rw [s2, hc0]⟩
              obtain ⟨rows, r1, r2⟩ := choose_list (R := fun _ xs => Shp ety xs ∧ xs.length = 0) len hrows
              obtain ⟨f1, _⟩ := flatten_get (sz := 0) (rows := rows) fun r hr => by obtain ⟨i, hi, rfl⟩ := List.getElem_of_mem hr; exact (r2 i hi).2
              refine ⟨[.sl rows.length rows.flatten], ⟨rows, rfl, fun r hr => by obtain ⟨i, hi, rfl⟩ := List.getElem_of_mem hr; exact (r2 i hi).1⟩, by simp [h3], by simp [h3], fun i hi => ?_⟩
              have : i = 0 := by simp at hi; omega
              subst this
              simp only [List.getD_cons_zero, List.getElem_cons_zero]
              rw [r1]
              exact .sl _ _ _ _ (fun _ => undef) hl hm (.inl (by rw [f1]; simp)) fun j hj => by rw [f1] at hj; simp at hj
            · rcases opens_elems (Q := fun _ cs => Opens w ety (P.cellsOf e) cs) (by omega) hel (fun i cs r htr => ih ety e fuel cs r h1 htr) with h0 | ⟨b, off, rfl, hb, hall⟩
              · subst h0
                exact ⟨[.sl 0 []], ⟨[], rfl, by simp⟩, by simp [h3], by simp [h3], fun i hi => by
                  have : i = 0 := by simp at hi; omega
                  subst this
                  exact .sl _ _ _ _ (fun _ => undef) hl hm (.inl rfl) fun j hj => by simp at hj⟩
              · obtain ⟨rows, r1, r2⟩ := choose_list (R := fun i xs => Shp ety xs ∧ xs.length = P.cellsOf e ∧ ∀ j (hj : j < xs.length), ∃ v, w.cell? ⟨b, off + (i * P.cellsOf e + j), none⟩ = some v ∧ Rep w (fun b => b < w.heap.size) v xs[j]) len fun i hi => by
                  obtain ⟨cs, c1, ⟨xs, s1, s2, s3, s4⟩, c3⟩ := hall i hi
                  exact ⟨xs, s1, s2, fun j hj => ⟨_, c3 j (by omega), s4 j hj⟩⟩
                obtain ⟨f1, f2⟩ := flatten_get (sz := P.cellsOf e) (rows := rows) fun r hr => by obtain ⟨i, hi, rfl⟩ := List.getElem_of_mem hr; exact (r2 i hi).2.1
                refine ⟨[.sl rows.length rows.flatten], ⟨rows, rfl, fun r hr => by obtain ⟨i, hi, rfl⟩ := List.getElem_of_mem hr; exact (r2 i hi).1⟩, by simp [h3], by simp [h3], fun i hi => ?_⟩
                have : i = 0 := by simp at hi; omega
                subst this
                simp only [List.getD_cons_zero, List.getElem_cons_zero]
                rw [r1]
                have hcell : ∀ m, m < rows.flatten.length → ∃ v, w.cell? ⟨b, off + m, none⟩ = some v ∧ Rep w (fun b => b < w.heap.size) v (rows.flatten.getD m .any) := by
                  intro m hm
                  rw [f1] at hm
                  have hi' : m / P.cellsOf e < rows.length := by rw [Nat.div_lt_iff_lt_mul (by omega)]; exact hm
                  have hj' : m % P.cellsOf e < P.cellsOf e := Nat.mod_lt _ (by omega)
                  have hmm : m / P.cellsOf e * P.cellsOf e + m % P.cellsOf e = m := by rw [Nat.mul_comm]; exact Nat.div_add_mod m _
                  obtain ⟨_, g2, g3⟩ := r2 _ hi'
                  obtain ⟨v, v1, v2⟩ := g3 (m % P.cellsOf e) (by rw [g2]; exact hj')
                  rw [hmm] at v1
                  refine ⟨v, v1, ?_⟩
                  have := f2 _ _ hi' hj'
                  rw [hmm] at this
                  rw [this]
                  simp only [List.getD, List.getElem?_eq_getElem hi', Option.getD_some]
                  rw [List.getElem?_eq_getElem (by rw [g2]; exact hj')]
                  exact v2
                refine .sl _ _ _ _ (fun m => (w.cell? ⟨b, off + m, none⟩).getD undef) hl hm (.inr ⟨b, off, rfl, hb, fun m hm => ?_⟩) fun m hm => ?_
                · obtain ⟨v, v1, _⟩ := hcell m hm
                  simp only [v1, Option.getD_some]
                · obtain ⟨v, v1, v2⟩ := hcell m hm
                  simp only [v1, Option.getD_some]
                  have e9 : rows.flatten.getD m .any = rows.flatten[m] := by rw [List.getD_eq_getElem?_getD, List.getElem?_eq_getElem hm, Option.getD_some]
                  rw [e9] at v2
                  exact v2
      | struct fs =>
        cases ty <;> simp only at h <;> try (cases h)
        rename_i tys
        split at hr <;> first | (exfalso; simp at *; done) | skip
        all_goals (first | (exfalso; simp_all; done) | skip)
        rename_i cs' fs' heq
        simp only [Option.some.injEq, TypeDesc.struct.injEq] at heq
        subst heq
        split at hr
        · rename_i hlen
          obtain ⟨rs, hm, _⟩ := Option.map_eq_some_iff.1 hr
          obtain ⟨_, xs, s1, s2, s3⟩ := opens_fields ih hlen fs.toList tys 0 rs h hm
          exact ⟨xs, s1, by omega, hlen, fun i hi => by simpa using s3 i hi⟩
        · cases hr
      | _ => simp at h
end
theorem open_st {H : Type} {enc : TypeId × Value → H} {P : Program} {w : World} {spare : Nat → Bool} {held : Bool} {ty : Ty} {T : TypeId} {cs : Array Value} {d : DataW H} {ps : List MemPlace} (ht : tyOk P 20 T ty = true)
    (h : DataW.Trod enc P w 0 spare held T (.agg cs) d ps) : ∃ xs, Shp ty xs ∧ Rep w (fun b => b < w.heap.size) (.agg cs) (.agg xs) := by
  obtain ⟨fuel, hf⟩ := h
  obtain ⟨xs, s1, s2, s3, s4⟩ := opens 20 ty T fuel _ _ ht hf
  have hcs : (Value.agg cs).cells.toList = cs.toList := rfl
  rw [hcs] at s3 s4
  refine ⟨xs, s1, .agg _ _ (by simp at s3; omega) fun i hi => ?_⟩
  have := s4 i hi
  simpa [List.getD] using this
end Go.Proofs.YtpidkkgjgichdaaDoor
namespace Go.Proofs.YtpidkkgjgichdaaDoor
open Go
set_option linter.unusedVariables false
def ndF : Hp → Prop
  | [] => True
  | (b, _) :: r => fresh r b ∧ ndF r
theorem ndF_of : ∀ {H : Hp}, (H.map (·.1)).Nodup → ndF H
  | [], _ => trivial
  | (b, m) :: r, h => by
    simp only [List.map_cons, List.nodup_cons] at h
    refine ⟨fun x hx => ?_, ndF_of h.2⟩
    have : x.1 ≠ b := fun he => h.1 (he ▸ List.mem_map_of_mem hx)
    exact ⟨this, fun he => this he.symm⟩
theorem WP.nd {P : Program} {cx : Cx} {n : Nat} {c : Code} {Q : Exit → St → Prop} {s : St} (h : ndF s.H → WP P cx n c Q s) : WP P cx n c Q s := fun a w ok => h (ndF_of ok.world.nodup) a w ok
end Go.Proofs.YtpidkkgjgichdaaDoor
namespace Go.Proofs.YtpidkkgjgichdaaDoor
open Go
set_option linter.unusedVariables false
set_option linter.unusedSimpArgs false
theorem eqCells_cons (c d : AV) : ∀ r s, eqCells (c :: r) (d :: s) = ((eqCells [c] [d]).1 ∧ (eqCells r s).1, (eqCells [c] [d]).2 && (eqCells r s).2) := by
  intro r s
  cases c <;> cases d <;> try (simp [eqCells]; done)
  rename_i v w
  cases v <;> cases w <;> simp [eqCells]
theorem eqCells_append : ∀ (cs ds cs' ds' : List AV), cs.length = ds.length → eqCells (cs ++ cs') (ds ++ ds') = ((eqCells cs ds).1 ∧ (eqCells cs' ds').1, (eqCells cs ds).2 && (eqCells cs' ds').2)
  | [], [], cs', ds', _ => by simp [eqCells]
  | c :: cs, d :: ds, cs', ds', h => by
    rw [List.cons_append, List.cons_append, eqCells_cons, eqCells_append cs ds cs' ds' (by simpa using h), eqCells_cons c d cs ds]
    simp [and_assoc, Bool.and_assoc]
  | [], _ :: _, _, _, h => by simp at h
  | _ :: _, [], _, _, h => by simp at h
theorem eqFields_cons {P : Program} {w : World} {n : Nat} {xs ys : Array Value} {f : Field} {fs : List Field} {r : Bool} (h : (Op.eqFields n xs ys [f]).run P w = .ok r w) :
    (Op.eqFields n xs ys (f :: fs)).run P w = if r then (Op.eqFields n xs ys fs).run P w else .ok false w := by
  simp only [Op.eqFields] at h ⊢
  split at h
  · rename_i hn
    rw [if_pos hn]
    simp only [Sem.run_bind] at h ⊢
    cases e1 : (part f.type xs f.offset).run P w with
    | ok a w1 =>
      rw [e1] at h
      simp only [Result.andThen_ok, Sem.run_bind] at h ⊢
      cases e2 : (part f.type ys f.offset).run P w1 with
      | ok b w2 =>
        rw [e2] at h
        simp only [Result.andThen_ok, Sem.run_bind] at h ⊢
        cases e3 : (Op.equalIn n f.type a b).run P w2 with
        | ok c w3 =>
          rw [e3] at h
          simp only [Result.andThen_ok] at h ⊢
          cases c
          · simp at h; obtain ⟨rfl, rfl⟩ := h; simp
          · simp at h; obtain ⟨rfl, rfl⟩ := h; simp
        | halt x w3 => rw [e3] at h; simp [Result.andThen] at h
      | halt x w2 => rw [e2] at h; simp [Result.andThen] at h
    | halt x w1 => rw [e1] at h; simp [Result.andThen] at h
  · rename_i hn
    rw [if_neg hn]
    simp at h
    subst h
    simp
def subB (P : Program) (T : TypeId) (sh : List Nat) : Bool :=
  !P.stoodInHeld T && decide (tyc P T = some (some sh.length)) && match P.underlying T with
  | some (.struct fs) => flatFs P 0 fs.toList sh
  | _ => false
def flat2Fs (P : Program) : Nat → List Field → List Nat → Bool
  | _, [], [] => true
  | i, f :: fs, sh =>
    if (shpT P f.type != 0) = true then flatFs P i [f] (sh.take 1) && flat2Fs P (i + 1) fs (sh.drop 1)
    else match tyc P f.type with
      | some (some m) => f.name != "_" && f.offset == i && decide (m ≤ sh.length) && subB P f.type (sh.take m) && flat2Fs P (i + m) fs (sh.drop m)
      | _ => false
  | _, _, _ => false
def flat2B (P : Program) (T : TypeId) (sh : List Nat) : Bool :=
  !P.eqGuardType P.depth T && !P.stoodInHeld T && match P.underlying T with
  | some (.struct fs) => flat2Fs P 0 fs.toList sh
  | _ => false
theorem eqCells_len : ∀ (cs ds : List AV), (eqCells cs ds).1 → cs.length = ds.length
  | [], [], _ => rfl
  | c :: cs, d :: ds, h => by
    rw [eqCells_cons] at h
    simp [eqCells_len cs ds h.2]
  | [], d :: ds, h => by simp [eqCells] at h
  | c :: cs, [], h => by cases c <;> simp [eqCells] at h
theorem flatFs_len {P : Program} : ∀ (fs : List Field) (i : Nat) (sh : List Nat), flatFs P i fs sh = true → sh.length = fs.length
  | [], i, [], _ => rfl
  | [], i, _ :: _, h => by simp [flatFs] at h
  | f :: fs, i, [], h => by simp [flatFs] at h
  | f :: fs, i, s :: sh, h => by
    simp only [flatFs, Bool.and_eq_true] at h
    simp [flatFs_len fs (i + 1) sh h.2]
theorem eqFs2 {P : Program} {w : World} {I : Nat → Prop} {xs ys : Array Value} (n : Nat) : ∀ (fs : List Field) (sh : List Nat) (i : Nat) (cs ds : List AV), flat2Fs P i fs sh = true → cs.map shp = sh → (eqCells cs ds).1 →
    (∀ j, j < cs.length → i + j < xs.size ∧ Rep w I (xs.getD (i + j) undef) (cs.getD j .any)) → (∀ j, j < ds.length → i + j < ys.size ∧ Rep w I (ys.getD (i + j) undef) (ds.getD j .any)) →
    (Op.eqFields (n + 2) xs ys fs).run P w = .ok (eqCells cs ds).2 w
  | [], sh, i, cs, ds, hf, hs, he, hx, hy => by
    cases sh with
    | cons s ss => simp [flat2Fs] at hf
    | nil =>
      cases cs with
      | cons c cs => simp at hs
      | nil => cases ds with
        | cons d ds => simp [eqCells] at he
        | nil => simp [Op.eqFields, eqCells]
  | f :: fs, sh, i, cs, ds, hf, hs, he, hx, hy => by
    have hlen := eqCells_len cs ds he
    -- the field's own cells and the rest
    have step : ∀ m : Nat, m ≤ cs.length → (∀ c1 d1, c1 = cs.take m → d1 = ds.take m → (eqCells c1 d1).1 → (Op.eqFields (n + 2) xs ys [f]).run P w = .ok (eqCells c1 d1).2 w) →
        flat2Fs P (i + m) fs (sh.drop m) = true → (Op.eqFields (n + 2) xs ys (f :: fs)).run P w = .ok (eqCells cs ds).2 w := by
      intro m hm h1 h2
      have e := eqCells_append (cs.take m) (ds.take m) (cs.drop m) (ds.drop m) (by simp; omega)
      rw [List.take_append_drop, List.take_append_drop] at e
      rw [e] at he ⊢
      have ih := eqFs2 (w := w) (I := I) (xs := xs) (ys := ys) n fs (sh.drop m) (i + m) (cs.drop m) (ds.drop m) h2 (by rw [List.map_drop, hs]) he.2
        (fun j hj => by
          have := hx (m + j) (by simp at hj; omega)
          rw [show i + m + j = i + (m + j) by omega]
          refine ⟨this.1, ?_⟩
          have h3 := this.2
          simp only [List.getD, List.getElem?_drop] at h3 ⊢
          exact h3)
        (fun j hj => by
          have := hy (m + j) (by simp at hj; omega)
          rw [show i + m + j = i + (m + j) by omega]
          refine ⟨this.1, ?_⟩
          have h3 := this.2
          simp only [List.getD, List.getElem?_drop] at h3 ⊢
          exact h3)
      rw [eqFields_cons (h1 _ _ rfl rfl he.1)]
      cases hb : (eqCells (cs.take m) (ds.take m)).2
      · simp
      · simpa using ih
    have getx : ∀ (m : Nat) (j : Nat), j < (cs.take m).length → i + j < xs.size ∧ Rep w I (xs.getD (i + j) undef) ((cs.take m).getD j .any) := fun m j hj => by
      simp only [List.length_take] at hj
      have := hx j (by omega)
      refine ⟨this.1, ?_⟩
      have h3 := this.2
      simp only [List.getD, List.getElem?_take] at h3 ⊢
      rw [if_pos (by omega)]; exact h3
    have gety : ∀ (m : Nat) (j : Nat), j < (ds.take m).length → i + j < ys.size ∧ Rep w I (ys.getD (i + j) undef) ((ds.take m).getD j .any) := fun m j hj => by
      simp only [List.length_take] at hj
      have := hy j (by omega)
      refine ⟨this.1, ?_⟩
      have h3 := this.2
      simp only [List.getD, List.getElem?_take] at h3 ⊢
      rw [if_pos (by omega)]; exact h3
    unfold flat2Fs at hf
    split at hf
    · rename_i hp
      rw [Bool.and_eq_true] at hf
      have hl := flatFs_len _ _ _ hf.1
      have hcl : 1 ≤ cs.length := by rw [← hs, List.length_take, List.length_map] at hl; simp at hl; omega
      refine step 1 hcl (fun c1 d1 h1 h2 he1 => ?_) hf.2
      subst h1 h2
      exact eqFs (I := I) (n + 1) [f] (sh.take 1) i _ _ hf.1 (by rw [List.map_take, hs]) he1 (getx 1) (gety 1)
    · split at hf
      · rename_i m hm
        simp only [Bool.and_eq_true, bne_iff_ne, beq_iff_eq, decide_eq_true_eq] at hf
        obtain ⟨⟨⟨⟨h1, h2⟩, h3⟩, h4⟩, h5⟩ := hf
        have hcl : m ≤ cs.length := by rw [← hs, List.length_map] at h3; exact h3
        refine step m hcl (fun c1 d1 g1 g2 he1 => ?_) h5
        subst g1 g2
        unfold subB at h4
        simp only [Bool.and_eq_true, Bool.not_eq_true', decide_eq_true_eq] at h4
        obtain ⟨⟨h6, _⟩, h7⟩ := h4
        split at h7
        · rename_i gs hu
          have hfo : P.fieldsOf f.type = gs := by unfold Program.fieldsOf; rw [hu]
          obtain ⟨a1, a2⟩ := run_isAgg_many (w := w) hm
          have p : ∀ zs : Array Value, (part f.type zs f.offset).run P w = .ok (.agg (zs.extract i (i + m))) w := fun zs => by
            simp [part, a1, a2, h2]
          have he2 : (Op.equalIn (n + 2) f.type (.agg (xs.extract i (i + m))) (.agg (ys.extract i (i + m)))).run P w = .ok (eqCells (cs.take m) (ds.take m)).2 w := by
            rw [run_equalIn_struct w (n + 1) f.type _ _ (by rw [hfo]; exact hu) h6, hfo]
            refine eqFs (I := I) n gs.toList (sh.take m) 0 _ _ h7 (by rw [List.map_take, hs]) he1 (fun j hj => ?_) (fun j hj => ?_)
            · have := getx m j hj
              have hj2 : j < m := by simp at hj; omega
              refine ⟨by simp; omega, ?_⟩
              have e : (xs.extract i (i + m)).getD (0 + j) undef = xs.getD (i + j) undef := by
                simp only [Array.getD_eq_getD_getElem?, Array.getElem?_extract, Nat.zero_add]
                rw [if_pos (by omega)]
              rw [e]; exact this.2
            · have := gety m j hj
              have hj2 : j < m := by simp at hj; omega
              refine ⟨by simp; omega, ?_⟩
              have e : (ys.extract i (i + m)).getD (0 + j) undef = ys.getD (i + j) undef := by
                simp only [Array.getD_eq_getD_getElem?, Array.getElem?_extract, Nat.zero_add]
                rw [if_pos (by omega)]
              rw [e]; exact this.2
          simp only [Op.eqFields, h1, ne_eq, not_false_eq_true, if_true, Sem.run_bind, p, he2, Result.andThen_ok]
          cases (eqCells (cs.take m) (ds.take m)).2 <;> simp
        · cases h7
      · cases hf
theorem flatEq_of2 {P : Program} {T : TypeId} {sh : List Nat} (h : flat2B P T sh = true) : flatEq P T sh := by
  unfold flat2B at h
  simp only [Bool.and_eq_true, Bool.not_eq_true'] at h
  obtain ⟨⟨h1, h2⟩, h3⟩ := h
  refine ⟨h1, fun w I xs ys cs ds hs hx hy he => ?_⟩
  split at h3
  · rename_i fs hu
    have hf : P.fieldsOf T = fs := by unfold Program.fieldsOf; rw [hu]
    obtain ⟨hxs, hxr⟩ : xs.size = cs.length ∧ ∀ i (hi : i < cs.length), Rep w I (xs.getD i undef) cs[i] := by cases hx; exact ⟨by assumption, by assumption⟩
    obtain ⟨hys, hyr⟩ : ys.size = ds.length ∧ ∀ i (hi : i < ds.length), Rep w I (ys.getD i undef) ds[i] := by cases hy; exact ⟨by assumption, by assumption⟩
    show (Op.equalIn (9999 + 1) T _ _).run P w = _
    rw [run_equalIn_struct w 9999 T xs ys (by rw [hf]; exact hu) h2, hf]
    refine eqFs2 (I := I) 9997 fs.toList sh 0 cs ds h3 hs he (fun j hj => ?_) (fun j hj => ?_)
    · have := hxr j hj
      rw [Nat.zero_add]
      exact ⟨by omega, by simpa [List.getD, hj] using this⟩
    · have := hyr j hj
      rw [Nat.zero_add]
      exact ⟨by omega, by simpa [List.getD, hj] using this⟩
  · cases h3
end Go.Proofs.YtpidkkgjgichdaaDoor
namespace Go.Proofs.YtpidkkgjgichdaaDoor
open Go
theorem tyc0 : tyc Tryd.prog 0 = some none := by kernel_rfl
theorem tyc2 : tyc Tryd.prog 2 = some none := by kernel_rfl
theorem zmb2 : zmb Tryd.prog 2 = some (.cells [(.lit (.int .i64 0))] 1 2) := by kernel_rfl
theorem tyc3 : tyc Tryd.prog 3 = some none := by kernel_rfl
theorem zmb3 : zmb Tryd.prog 3 = some (.cells [(.lit (.int .i64 0))] 1 3) := by kernel_rfl
theorem tyc4 : tyc Tryd.prog 4 = some none := by kernel_rfl
theorem zmb4 : zmb Tryd.prog 4 = some (.cells [(.lit (.bool false))] 1 4) := by kernel_rfl
theorem tyc5 : tyc Tryd.prog 5 = some none := by kernel_rfl
theorem zmb5 : zmb Tryd.prog 5 = some (.cells [(.lit (.int .u8 0))] 1 5) := by kernel_rfl
theorem tyc9 : tyc Tryd.prog 9 = some none := by kernel_rfl
theorem zmb9 : zmb Tryd.prog 9 = some (.cells [(.lit (.string ⟨#[]⟩))] 1 9) := by kernel_rfl
theorem tyc12 : tyc Tryd.prog 12 = some none := by kernel_rfl
theorem zmb12 : zmb Tryd.prog 12 = some (.cells [(.lit (.int .u64 0))] 1 12) := by kernel_rfl
theorem tyc21 : tyc Tryd.prog 21 = some none := by kernel_rfl
theorem zmb21 : zmb Tryd.prog 21 = some (.cells [(.lit (.int .i32 0))] 1 21) := by kernel_rfl
theorem tyc22 : tyc Tryd.prog 22 = some none := by kernel_rfl
theorem zmb22 : zmb Tryd.prog 22 = some (.cells [(.lit (.int .u64 0))] 1 22) := by kernel_rfl
theorem tyc24 : tyc Tryd.prog 24 = some (some 2) := by kernel_rfl
theorem foff24_0 : foff Tryd.prog 24 0 = some 0 := by kernel_rfl
theorem fpart24_0 : fpart Tryd.prog 24 0 = some (0, none) := by kernel_rfl
theorem foff24_1 : foff Tryd.prog 24 1 = some 1 := by kernel_rfl
theorem fpart24_1 : fpart Tryd.prog 24 1 = some (1, none) := by kernel_rfl
theorem fe24 : flatEq Tryd.prog 24 [1, 1] := flatEq_of (by kernel_rfl)
theorem zmb24 : zmb Tryd.prog 24 = some (.cells [(.lit (.int .u64 0)), (.lit (.int .u64 0))] 2 24) := by kernel_rfl
theorem bldT24 : bldT Tryd.prog 24 = some ([(.int .u64 0), (.int .u64 0)], [(0, 1), (1, 1)]) := by kernel_rfl
theorem tyc26 : tyc Tryd.prog 26 = some (some 5) := by kernel_rfl
theorem foff26_0 : foff Tryd.prog 26 0 = some 0 := by kernel_rfl
theorem fpart26_0 : fpart Tryd.prog 26 0 = some (0, none) := by kernel_rfl
theorem foff26_1 : foff Tryd.prog 26 1 = some 1 := by kernel_rfl
theorem fpart26_1 : fpart Tryd.prog 26 1 = some (1, none) := by kernel_rfl
theorem foff26_2 : foff Tryd.prog 26 2 = some 2 := by kernel_rfl
theorem fpart26_2 : fpart Tryd.prog 26 2 = some (2, none) := by kernel_rfl
theorem foff26_3 : foff Tryd.prog 26 3 = some 3 := by kernel_rfl
theorem fpart26_3 : fpart Tryd.prog 26 3 = some (3, none) := by kernel_rfl
theorem foff26_4 : foff Tryd.prog 26 4 = some 4 := by kernel_rfl
theorem fpart26_4 : fpart Tryd.prog 26 4 = some (4, none) := by kernel_rfl
theorem fe26 : flatEq Tryd.prog 26 [3, 3, 2, 1, 2] := flatEq_of (by kernel_rfl)
theorem zmb26 : zmb Tryd.prog 26 = some (.cells [(.lit (.string ⟨#[]⟩)), (.lit (.string ⟨#[]⟩)), (.lit (.bool false)), (.lit (.int .u64 0)), (.lit (.bool false))] 5 26) := by kernel_rfl
theorem bldT26 : bldT Tryd.prog 26 = some ([(.string ⟨#[]⟩), (.string ⟨#[]⟩), (.bool false), (.int .u64 0), (.bool false)], [(0, 1), (1, 1), (2, 1), (3, 1), (4, 1)]) := by kernel_rfl
theorem tyc28 : tyc Tryd.prog 28 = some (some 5) := by kernel_rfl
theorem foff28_0 : foff Tryd.prog 28 0 = some 0 := by kernel_rfl
theorem fpart28_0 : fpart Tryd.prog 28 0 = some (0, none) := by kernel_rfl
theorem foff28_1 : foff Tryd.prog 28 1 = some 1 := by kernel_rfl
theorem fpart28_1 : fpart Tryd.prog 28 1 = some (1, none) := by kernel_rfl
theorem foff28_2 : foff Tryd.prog 28 2 = some 2 := by kernel_rfl
theorem fpart28_2 : fpart Tryd.prog 28 2 = some (2, none) := by kernel_rfl
theorem foff28_3 : foff Tryd.prog 28 3 = some 3 := by kernel_rfl
theorem fpart28_3 : fpart Tryd.prog 28 3 = some (3, none) := by kernel_rfl
theorem foff28_4 : foff Tryd.prog 28 4 = some 4 := by kernel_rfl
theorem fpart28_4 : fpart Tryd.prog 28 4 = some (4, none) := by kernel_rfl
theorem fe28 : flatEq Tryd.prog 28 [3, 3, 1, 1, 1] := flatEq_of (by kernel_rfl)
theorem zmb28 : zmb Tryd.prog 28 = some (.cells [(.lit (.string ⟨#[]⟩)), (.lit (.string ⟨#[]⟩)), (.lit (.int .i64 0)), (.lit (.int .i64 0)), (.lit (.int .i64 0))] 5 28) := by kernel_rfl
theorem bldT28 : bldT Tryd.prog 28 = some ([(.string ⟨#[]⟩), (.string ⟨#[]⟩), (.int .i64 0), (.int .i64 0), (.int .i64 0)], [(0, 1), (1, 1), (2, 1), (3, 1), (4, 1)]) := by kernel_rfl
theorem tyc30 : tyc Tryd.prog 30 = some (some 15) := by kernel_rfl
theorem foff30_0 : foff Tryd.prog 30 0 = some 0 := by kernel_rfl
theorem fpart30_0 : fpart Tryd.prog 30 0 = some (0, none) := by kernel_rfl
theorem foff30_1 : foff Tryd.prog 30 1 = some 1 := by kernel_rfl
theorem fpart30_1 : fpart Tryd.prog 30 1 = some (1, none) := by kernel_rfl
theorem foff30_2 : foff Tryd.prog 30 2 = some 2 := by kernel_rfl
theorem fpart30_2 : fpart Tryd.prog 30 2 = some (2, none) := by kernel_rfl
theorem foff30_3 : foff Tryd.prog 30 3 = some 3 := by kernel_rfl
theorem fpart30_3 : fpart Tryd.prog 30 3 = some (3, (some 2)) := by kernel_rfl
theorem foff30_4 : foff Tryd.prog 30 4 = some 5 := by kernel_rfl
theorem fpart30_4 : fpart Tryd.prog 30 4 = some (5, (some 5)) := by kernel_rfl
theorem foff30_5 : foff Tryd.prog 30 5 = some 10 := by kernel_rfl
theorem fpart30_5 : fpart Tryd.prog 30 5 = some (10, (some 5)) := by kernel_rfl
theorem zmb30 : zmb Tryd.prog 30 = some (.cells [(.lit (.int .i64 0)), (.lit (.string ⟨#[]⟩)), (.lit (.int .i64 0)), (.lit (.int .u64 0)), (.lit (.int .u64 0)), (.lit (.string ⟨#[]⟩)), (.lit (.string ⟨#[]⟩)), (.lit (.bool false)), (.lit (.int .u64 0)), (.lit (.bool false)), (.lit (.string ⟨#[]⟩)), (.lit (.string ⟨#[]⟩)), (.lit (.int .i64 0)), (.lit (.int .i64 0)), (.lit (.int .i64 0))] 15 30) := by kernel_rfl
theorem bldT30 : bldT Tryd.prog 30 = some ([(.int .i64 0), (.string ⟨#[]⟩), (.int .i64 0), (.int .u64 0), (.int .u64 0), (.string ⟨#[]⟩), (.string ⟨#[]⟩), (.bool false), (.int .u64 0), (.bool false), (.string ⟨#[]⟩), (.string ⟨#[]⟩), (.int .i64 0), (.int .i64 0), (.int .i64 0)], [(0, 1), (1, 1), (2, 1), (3, 2), (5, 5), (10, 5)]) := by kernel_rfl
theorem tyc33 : tyc Tryd.prog 33 = some none := by kernel_rfl
theorem elt33 : elt Tryd.prog 33 = some (none, 1) := by kernel_rfl
theorem mkz33 : mkz Tryd.prog 33 = some (5, 1, .u8) := by kernel_rfl
theorem apT33 : apT Tryd.prog 33 = some (5, 1, 1) := by kernel_rfl
theorem elk33 : elk Tryd.prog 33 = (some .u8) := by kernel_rfl
theorem zmb33 : zmb Tryd.prog 33 = some (.cells [(.lit (.slice none 0 0))] 1 33) := by kernel_rfl
theorem tyc90 : tyc Tryd.prog 90 = some none := by kernel_rfl
theorem elt90 : elt Tryd.prog 90 = some (none, 1) := by kernel_rfl
theorem mkz90 : mkz Tryd.prog 90 = some (21, 4, .i32) := by kernel_rfl
theorem apT90 : apT Tryd.prog 90 = some (21, 1, 4) := by kernel_rfl
theorem elk90 : elk Tryd.prog 90 = (some .i32) := by kernel_rfl
theorem zmb90 : zmb Tryd.prog 90 = some (.cells [(.lit (.slice none 0 0))] 1 90) := by kernel_rfl
theorem tyc95 : tyc Tryd.prog 95 = some none := by kernel_rfl
theorem zmb95 : zmb Tryd.prog 95 = some (.cells [(.lit (.int .u64 0))] 1 95) := by kernel_rfl
theorem elt97 : elt Tryd.prog 97 = some ((some 256), 1) := by kernel_rfl
theorem arr197 : arr1 Tryd.prog 97 = some 256 := by kernel_rfl
theorem tyc99 : tyc Tryd.prog 99 = some (some 2) := by kernel_rfl
theorem foff99_0 : foff Tryd.prog 99 0 = some 0 := by kernel_rfl
theorem fpart99_0 : fpart Tryd.prog 99 0 = some (0, none) := by kernel_rfl
theorem foff99_1 : foff Tryd.prog 99 1 = some 1 := by kernel_rfl
theorem fpart99_1 : fpart Tryd.prog 99 1 = some (1, none) := by kernel_rfl
theorem fe99 : flatEq Tryd.prog 99 [1, 1] := flatEq_of (by kernel_rfl)
theorem zmb99 : zmb Tryd.prog 99 = some (.cells [(.lit (.int .u8 0)), (.lit (.int .u8 0))] 2 99) := by kernel_rfl
theorem bldT99 : bldT Tryd.prog 99 = some ([(.int .u8 0), (.int .u8 0)], [(0, 1), (1, 1)]) := by kernel_rfl
theorem tyc100 : tyc Tryd.prog 100 = some (some 32) := by kernel_rfl
theorem elt100 : elt Tryd.prog 100 = some ((some 16), 2) := by kernel_rfl
theorem zmb100 : zmb Tryd.prog 100 = some (.cells [(.lit (.int .u8 0)), (.lit (.int .u8 0)), (.lit (.int .u8 0)), (.lit (.int .u8 0)), (.lit (.int .u8 0)), (.lit (.int .u8 0)), (.lit (.int .u8 0)), (.lit (.int .u8 0)), (.lit (.int .u8 0)), (.lit (.int .u8 0)), (.lit (.int .u8 0)), (.lit (.int .u8 0)), (.lit (.int .u8 0)), (.lit (.int .u8 0)), (.lit (.int .u8 0)), (.lit (.int .u8 0)), (.lit (.int .u8 0)), (.lit (.int .u8 0)), (.lit (.int .u8 0)), (.lit (.int .u8 0)), (.lit (.int .u8 0)), (.lit (.int .u8 0)), (.lit (.int .u8 0)), (.lit (.int .u8 0)), (.lit (.int .u8 0)), (.lit (.int .u8 0)), (.lit (.int .u8 0)), (.lit (.int .u8 0)), (.lit (.int .u8 0)), (.lit (.int .u8 0)), (.lit (.int .u8 0)), (.lit (.int .u8 0))] 32 100) := by kernel_rfl
theorem bldT100 : bldT Tryd.prog 100 = some ([(.int .u8 0), (.int .u8 0), (.int .u8 0), (.int .u8 0), (.int .u8 0), (.int .u8 0), (.int .u8 0), (.int .u8 0), (.int .u8 0), (.int .u8 0), (.int .u8 0), (.int .u8 0), (.int .u8 0), (.int .u8 0), (.int .u8 0), (.int .u8 0), (.int .u8 0), (.int .u8 0), (.int .u8 0), (.int .u8 0), (.int .u8 0), (.int .u8 0), (.int .u8 0), (.int .u8 0), (.int .u8 0), (.int .u8 0), (.int .u8 0), (.int .u8 0), (.int .u8 0), (.int .u8 0), (.int .u8 0), (.int .u8 0)], [(0, 2), (2, 2), (4, 2), (6, 2), (8, 2), (10, 2), (12, 2), (14, 2), (16, 2), (18, 2), (20, 2), (22, 2), (24, 2), (26, 2), (28, 2), (30, 2)]) := by kernel_rfl
theorem mixed : Tryd.prog.follows .mixedOrders = true := by kernel_rfl
end Go.Proofs.YtpidkkgjgichdaaDoor
namespace Go.Proofs.YtpidkkgjgichdaaDoor
open Go
set_option linter.unusedVariables false
set_option linter.unusedSimpArgs false
section
variable {P : Program} {cx : Cx} {n : Nat} {ops : Array Oper} {H : Hp}
theorem Ok.permH {env : List (Nat × AV)} {H H' : Hp} {a : Act} {w : World} (hp : H.Perm H') (ok : Ok cx n ⟨env, H⟩ a w) : Ok cx n ⟨env, H'⟩ a w :=
  ⟨ok.defers, ok.size, fun t => (ok.reps t).mono fun b hb => ⟨(imm_perm hp).1 hb, rfl⟩, ok.world.perm hp⟩
theorem fresh_app {E H : Hp} (h : ((E ++ H).map (·.1)).Nodup) : ∀ p ∈ E, fresh H p.1 := by
  intro p hp x hx
  rw [List.map_append, List.nodup_append] at h
  have := h.2.2 p.1 (List.mem_map_of_mem hp) x.1 (List.mem_map_of_mem hx)
  exact ⟨fun he => this he.symm, this⟩
def alF (P : Program) (n : Nat) (K : St → Prop) : List Oper → St → Prop
  | [], s => K s
  | o :: r, s => match o with
    | ⟨some t, .alloc T, _, _, _, none⟩ => match zmb P T with
      | some m => t < n ∧ newB s.H m fun b H => alF P n K r ⟨(t, pt b 0) :: s.env, H⟩
      | none => False
    | _ => False
def drawAF (P : Program) (n : Nat) (l : List Oper) (K : St → Prop) (p r : Nat) (s : St) : Prop :=
  dvc P n l.toArray (l.take p) (fun s1 => alF P n (fun s2 => rvc P n l.toArray (l.drop (p + r)) K s2) ((l.drop p).take r) s1) s
end
end Go.Proofs.YtpidkkgjgichdaaDoor
namespace Go.Proofs.YtpidkkgjgichdaaDoor
open Go
set_option linter.unusedSimpArgs false
set_option linter.unusedVariables false
section
variable {P : Program} {cx : Cx} {n : Nat} {ops : Array Oper} {H : Hp}
def drawSF (P : Program) (n : Nat) (l : List Oper) (K : St → Prop) (is k : Nat) (s : St) : Prop :=
  match l.drop is with
  | ⟨none, .store T a y, _, _, _, none⟩ :: q => match (og s.env a).2 with
    | .lit (.pointer (some ⟨b, off, none⟩)) => match hget s.H b with
      | some m0 => dvc P n l.toArray (l.take is) (fun s2 => (og s2.env a).1 ∧ (og s2.env a).2 = pt b off ∧ (og s2.env y).1 ∧ (stC P T m0 off (og s2.env y).2).1 ∧
          dvc P n l.toArray (q.take (k - is - 1)) (fun s3 => rvc P n l.toArray (q.drop (k - is - 1)) K ⟨s3.env, (b, (stC P T m0 off (og s2.env y).2).2) :: s3.H⟩) s2) ⟨s.env, hdel s.H b⟩
      | none => False
    | _ => False
  | _ => False
end
end Go.Proofs.YtpidkkgjgichdaaDoor
namespace Go.Proofs.YtpidkkgjgichdaaDoor
open Go
set_option linter.unusedSimpArgs false
set_option linter.unusedVariables false
section
variable {P : Program} {f : FuncId} {args : List AV} {H F F0 R : Hp} {post : AV → Hp → Prop}
theorem DCt.upd {b : Nat} {m : MB} {x : AV} (hg : hget H b = some m) (h : ACt P f args [(b, m)] (fun r F' => r = x ∧ F' = [(b, m)])) : DCt P f args H x :=
  ⟨[(b, m)], hdel H b, _, hget_perm hg, h, fun r F' hr _ => by obtain ⟨e1, e2⟩ := hr; subst e1 e2; exact ⟨rfl, (hget_perm hg).symm⟩⟩
theorem perm2 {b1 b2 : Nat} {m1 m2 : MB} (h1 : hget H b1 = some m1) (h2 : hget (hdel H b1) b2 = some m2) : H.Perm ([(b1, m1), (b2, m2)] ++ hdel (hdel H b1) b2) :=
  (hget_perm h1).trans (List.Perm.append_left [(b1, m1)] (hget_perm h2))
theorem perm3 {b1 b2 b3 : Nat} {m1 m2 m3 : MB} (h1 : hget H b1 = some m1) (h2 : hget (hdel H b1) b2 = some m2) (h3 : hget (hdel (hdel H b1) b2) b3 = some m3) : H.Perm ([(b1, m1), (b2, m2), (b3, m3)] ++ hdel (hdel (hdel H b1) b2) b3) :=
  (hget_perm h1).trans (List.Perm.append_left [(b1, m1)] (perm2 h2 h3))
theorem DCt.updN {x : AV} (hP : H.Perm (F ++ R)) (h : ACt P f args F (fun r F' => r = x ∧ F' = F)) : DCt P f args H x :=
  ⟨F, R, _, hP, h, fun r F' hr _ => by obtain ⟨e1, e2⟩ := hr; subst e1 e2; exact ⟨rfl, hP.symm⟩⟩
theorem CallV.updN {x : AV} (hP : H.Perm (F ++ R)) (h : ACt P f args F (fun r F' => r = x ∧ F' = F0)) (hp : post x (F0 ++ R)) : CallV P f args H post :=
  ⟨F, R, _, hP, h, fun r F' hr _ => by obtain ⟨e1, e2⟩ := hr; subst e1 e2; exact hp⟩
theorem CallV.ex {Γ : Type} {x : Γ → AV} {m : Γ → Hp} (hP : H.Perm (F ++ R)) (h : ACt P f args F (fun r F' => ∃ g, r = x g ∧ F' = m g)) (hp : ∀ g, post (x g) (m g ++ R)) : CallV P f args H post :=
  ⟨F, R, _, hP, h, fun r F' hr _ => by obtain ⟨g, e1, e2⟩ := hr; subst e1 e2; exact hp g⟩
theorem ExF.up {K : AV → Prop} {x : AV} (hP : ∃ R, H.Perm (F ++ R)) (h : ACt P f args F (fun r F' => r = x ∧ F' = F)) (hk : K x) : ExF P f args H K := let ⟨_, hP⟩ := hP; ExF.on (DCt.updN hP h) hk
theorem ExG.up {c : Bool} {K : AV → Prop} {x : AV} (hP : ∃ R, H.Perm (F ++ R)) (h : c = true → ACt P f args F (fun r F' => r = x ∧ F' = F)) (hk : K x) : ExG c P f args H K := let ⟨_, hP⟩ := hP; ExG.on (fun hc => DCt.updN hP (h hc)) hk
theorem ExG.upJ {c : Bool} {K : AV → Prop} {x : AV} {q : Prop} (hP : ∃ R, H.Perm (F ++ R)) (h : c = true → ACt P f args F (fun r F' => r = x ∧ F' = F)) (hk : K x) : ExG c P f args H K ∨ q := .inl (ExG.up hP h hk)
theorem ExG.upI {c : Bool} {K : AV → Prop} {x : AV} {q ob : Prop} (hP : ∃ R, H.Perm (F ++ R)) (h : c = true → ACt P f args F (fun r F' => r = x ∧ F' = F)) (ho : ob) (hk : K x) : (ob ∧ ExG c P f args H K) ∨ q := .inl ⟨ho, ExG.up hP h hk⟩
theorem CallV.updM {f : FuncId} {args : List AV} {H F F0 R : Hp} {post : AV → Hp → Prop} {x : AV} (h : ACt P f args F (fun r F' => r = x ∧ F' = F0)) (hP : H.Perm (F ++ R)) (hp : post x (F0 ++ R)) : CallV P f args H post := CallV.updN hP h hp
theorem CallV.exM {f : FuncId} {args : List AV} {H F R : Hp} {post : AV → Hp → Prop} {Γ : Type} {x : Γ → AV} {m : Γ → Hp} (h : ACt P f args F (fun r F' => ∃ g, r = x g ∧ F' = m g)) (hP : H.Perm (F ++ R)) (hp : ∀ g, post (x g) (m g ++ R)) : CallV P f args H post := CallV.ex hP h hp
end
end Go.Proofs.YtpidkkgjgichdaaDoor
