/-
  The layer, part S: structs whose fields are plain or plain structs are compared cell by cell.
-/
import Derived.Test.YtbnkmhlnoaebcaaLayR
namespace Go.Proofs.Ytbnkmhlnoaebcaa
open Go
set_option linter.unusedVariables false
set_option linter.unusedSimpArgs false

theorem eqCells_cons (c d : AV) : ∀ r s, eqCells (c :: r) (d :: s) = ((eqCells [c] [d]).1 ∧ (eqCells r s).1, (eqCells [c] [d]).2 && (eqCells r s).2) := by
  intro r s
  cases c <;> cases d <;> try (simp [eqCells]; done)
  rename_i v w
  cases v <;> cases w <;> simp [eqCells]
theorem eqCells_append : ∀ (cs ds cs' ds' : List AV), cs.length = ds.length → eqCells (cs ++ cs') (ds ++ ds') = ((eqCells cs ds).1 ∧ (eqCells cs' ds').1, (eqCells cs ds).2 && (eqCells cs' ds').2)
  | [], [], cs', ds', _ => by simp [eqCells]
  | c :: cs, d :: ds, cs', ds', h => by
    rw [List.cons_append, List.cons_append, eqCells_cons, eqCells_append cs ds cs' ds' (by simpa using h), eqCells_cons c d cs ds]
    simp [and_assoc, Bool.and_assoc]
  | [], _ :: _, _, _, h => by simp at h
  | _ :: _, [], _, _, h => by simp at h

theorem eqFields_cons {P : Program} {w : World} {n : Nat} {xs ys : Array Value} {f : Field} {fs : List Field} {r : Bool} (h : (Op.eqFields n xs ys [f]).run P w = .ok r w) :
    (Op.eqFields n xs ys (f :: fs)).run P w = if r then (Op.eqFields n xs ys fs).run P w else .ok false w := by
  simp only [Op.eqFields] at h ⊢
  split at h
  · rename_i hn
    rw [if_pos hn]
    simp only [Sem.run_bind] at h ⊢
    cases e1 : (part f.type xs f.offset).run P w with
    | ok a w1 =>
      rw [e1] at h
      simp only [Result.andThen_ok, Sem.run_bind] at h ⊢
      cases e2 : (part f.type ys f.offset).run P w1 with
      | ok b w2 =>
        rw [e2] at h
        simp only [Result.andThen_ok, Sem.run_bind] at h ⊢
        cases e3 : (Op.equalIn n f.type a b).run P w2 with
        | ok c w3 =>
          rw [e3] at h
          simp only [Result.andThen_ok] at h ⊢
          cases c
          · simp at h; obtain ⟨rfl, rfl⟩ := h; simp
          · simp at h; obtain ⟨rfl, rfl⟩ := h; simp
        | halt x w3 => rw [e3] at h; simp [Result.andThen] at h
      | halt x w2 => rw [e2] at h; simp [Result.andThen] at h
    | halt x w1 => rw [e1] at h; simp [Result.andThen] at h
  · rename_i hn
    rw [if_neg hn]
    simp at h
    subst h
    simp

/-- a field's own cells, if it is a plain struct -/
def subB (P : Program) (T : TypeId) (sh : List Nat) : Bool :=
  !P.stoodInHeld T && decide (tyc P T = some (some sh.length)) && match P.underlying T with
  | some (.struct fs) => flatFs P 0 fs.toList sh
  | _ => false
def flat2Fs (P : Program) : Nat → List Field → List Nat → Bool
  | _, [], [] => true
  | i, f :: fs, sh =>
    if (shpT P f.type != 0) = true then flatFs P i [f] (sh.take 1) && flat2Fs P (i + 1) fs (sh.drop 1)
    else match tyc P f.type with
      | some (some m) => f.name != "_" && f.offset == i && decide (m ≤ sh.length) && subB P f.type (sh.take m) && flat2Fs P (i + m) fs (sh.drop m)
      | _ => false
  | _, _, _ => false
def flat2B (P : Program) (T : TypeId) (sh : List Nat) : Bool :=
  !P.eqGuardType P.depth T && !P.stoodInHeld T && match P.underlying T with
  | some (.struct fs) => flat2Fs P 0 fs.toList sh
  | _ => false

theorem eqCells_len : ∀ (cs ds : List AV), (eqCells cs ds).1 → cs.length = ds.length
  | [], [], _ => rfl
  | c :: cs, d :: ds, h => by
    rw [eqCells_cons] at h
    simp [eqCells_len cs ds h.2]
  | [], d :: ds, h => by simp [eqCells] at h
  | c :: cs, [], h => by cases c <;> simp [eqCells] at h

theorem flatFs_len {P : Program} : ∀ (fs : List Field) (i : Nat) (sh : List Nat), flatFs P i fs sh = true → sh.length = fs.length
  | [], i, [], _ => rfl
  | [], i, _ :: _, h => by simp [flatFs] at h
  | f :: fs, i, [], h => by simp [flatFs] at h
  | f :: fs, i, s :: sh, h => by
    simp only [flatFs, Bool.and_eq_true] at h
    simp [flatFs_len fs (i + 1) sh h.2]

theorem eqFs2 {P : Program} {w : World} {I : Nat → Prop} {xs ys : Array Value} (n : Nat) : ∀ (fs : List Field) (sh : List Nat) (i : Nat) (cs ds : List AV), flat2Fs P i fs sh = true → cs.map shp = sh → (eqCells cs ds).1 →
    (∀ j, j < cs.length → i + j < xs.size ∧ Rep w I (xs.getD (i + j) undef) (cs.getD j .any)) → (∀ j, j < ds.length → i + j < ys.size ∧ Rep w I (ys.getD (i + j) undef) (ds.getD j .any)) →
    (Op.eqFields (n + 2) xs ys fs).run P w = .ok (eqCells cs ds).2 w
  | [], sh, i, cs, ds, hf, hs, he, hx, hy => by
    cases sh with
    | cons s ss => simp [flat2Fs] at hf
    | nil =>
      cases cs with
      | cons c cs => simp at hs
      | nil => cases ds with
        | cons d ds => simp [eqCells] at he
        | nil => simp [Op.eqFields, eqCells]
  | f :: fs, sh, i, cs, ds, hf, hs, he, hx, hy => by
    have hlen := eqCells_len cs ds he
    -- the field's own cells and the rest
    have step : ∀ m : Nat, m ≤ cs.length → (∀ c1 d1, c1 = cs.take m → d1 = ds.take m → (eqCells c1 d1).1 → (Op.eqFields (n + 2) xs ys [f]).run P w = .ok (eqCells c1 d1).2 w) →
        flat2Fs P (i + m) fs (sh.drop m) = true → (Op.eqFields (n + 2) xs ys (f :: fs)).run P w = .ok (eqCells cs ds).2 w := by
      intro m hm h1 h2
      have e := eqCells_append (cs.take m) (ds.take m) (cs.drop m) (ds.drop m) (by simp; omega)
      rw [List.take_append_drop, List.take_append_drop] at e
      rw [e] at he ⊢
      have ih := eqFs2 (w := w) (I := I) (xs := xs) (ys := ys) n fs (sh.drop m) (i + m) (cs.drop m) (ds.drop m) h2 (by rw [List.map_drop, hs]) he.2
        (fun j hj => by
          have := hx (m + j) (by simp at hj; omega)
          rw [show i + m + j = i + (m + j) by omega]
          refine ⟨this.1, ?_⟩
          have h3 := this.2
          simp only [List.getD, List.getElem?_drop] at h3 ⊢
          exact h3)
        (fun j hj => by
          have := hy (m + j) (by simp at hj; omega)
          rw [show i + m + j = i + (m + j) by omega]
          refine ⟨this.1, ?_⟩
          have h3 := this.2
          simp only [List.getD, List.getElem?_drop] at h3 ⊢
          exact h3)
      rw [eqFields_cons (h1 _ _ rfl rfl he.1)]
      cases hb : (eqCells (cs.take m) (ds.take m)).2
      · simp
      · simpa using ih
    have getx : ∀ (m : Nat) (j : Nat), j < (cs.take m).length → i + j < xs.size ∧ Rep w I (xs.getD (i + j) undef) ((cs.take m).getD j .any) := fun m j hj => by
      simp only [List.length_take] at hj
      have := hx j (by omega)
      refine ⟨this.1, ?_⟩
      have h3 := this.2
      simp only [List.getD, List.getElem?_take] at h3 ⊢
      rw [if_pos (by omega)]; exact h3
    have gety : ∀ (m : Nat) (j : Nat), j < (ds.take m).length → i + j < ys.size ∧ Rep w I (ys.getD (i + j) undef) ((ds.take m).getD j .any) := fun m j hj => by
      simp only [List.length_take] at hj
      have := hy j (by omega)
      refine ⟨this.1, ?_⟩
      have h3 := this.2
      simp only [List.getD, List.getElem?_take] at h3 ⊢
      rw [if_pos (by omega)]; exact h3
    unfold flat2Fs at hf
    split at hf
    · rename_i hp
      rw [Bool.and_eq_true] at hf
      have hl := flatFs_len _ _ _ hf.1
      have hcl : 1 ≤ cs.length := by rw [← hs, List.length_take, List.length_map] at hl; simp at hl; omega
      refine step 1 hcl (fun c1 d1 h1 h2 he1 => ?_) hf.2
      subst h1 h2
      exact eqFs (I := I) (n + 1) [f] (sh.take 1) i _ _ hf.1 (by rw [List.map_take, hs]) he1 (getx 1) (gety 1)
    · split at hf
      · rename_i m hm
        simp only [Bool.and_eq_true, bne_iff_ne, beq_iff_eq, decide_eq_true_eq] at hf
        obtain ⟨⟨⟨⟨h1, h2⟩, h3⟩, h4⟩, h5⟩ := hf
        have hcl : m ≤ cs.length := by rw [← hs, List.length_map] at h3; exact h3
        refine step m hcl (fun c1 d1 g1 g2 he1 => ?_) h5
        subst g1 g2
        unfold subB at h4
        simp only [Bool.and_eq_true, Bool.not_eq_true', decide_eq_true_eq] at h4
        obtain ⟨⟨h6, _⟩, h7⟩ := h4
        split at h7
        · rename_i gs hu
          have hfo : P.fieldsOf f.type = gs := by unfold Program.fieldsOf; rw [hu]
          obtain ⟨a1, a2⟩ := run_isAgg_many (w := w) hm
          have p : ∀ zs : Array Value, (part f.type zs f.offset).run P w = .ok (.agg (zs.extract i (i + m))) w := fun zs => by
            simp [part, a1, a2, h2]
          have he2 : (Op.equalIn (n + 2) f.type (.agg (xs.extract i (i + m))) (.agg (ys.extract i (i + m)))).run P w = .ok (eqCells (cs.take m) (ds.take m)).2 w := by
            rw [run_equalIn_struct w (n + 1) f.type _ _ (by rw [hfo]; exact hu) h6, hfo]
            refine eqFs (I := I) n gs.toList (sh.take m) 0 _ _ h7 (by rw [List.map_take, hs]) he1 (fun j hj => ?_) (fun j hj => ?_)
            · have := getx m j hj
              have hj2 : j < m := by simp at hj; omega
              refine ⟨by simp; omega, ?_⟩
              have e : (xs.extract i (i + m)).getD (0 + j) undef = xs.getD (i + j) undef := by
                simp only [Array.getD_eq_getD_getElem?, Array.getElem?_extract, Nat.zero_add]
                rw [if_pos (by omega)]
              rw [e]; exact this.2
            · have := gety m j hj
              have hj2 : j < m := by simp at hj; omega
              refine ⟨by simp; omega, ?_⟩
              have e : (ys.extract i (i + m)).getD (0 + j) undef = ys.getD (i + j) undef := by
                simp only [Array.getD_eq_getD_getElem?, Array.getElem?_extract, Nat.zero_add]
                rw [if_pos (by omega)]
              rw [e]; exact this.2
          simp only [Op.eqFields, h1, ne_eq, not_false_eq_true, if_true, Sem.run_bind, p, he2, Result.andThen_ok]
          cases (eqCells (cs.take m) (ds.take m)).2 <;> simp
        · cases h7
      · cases hf

theorem flatEq_of2 {P : Program} {T : TypeId} {sh : List Nat} (h : flat2B P T sh = true) : flatEq P T sh := by
  unfold flat2B at h
  simp only [Bool.and_eq_true, Bool.not_eq_true'] at h
  obtain ⟨⟨h1, h2⟩, h3⟩ := h
  refine ⟨h1, fun w I xs ys cs ds hs hx hy he => ?_⟩
  split at h3
  · rename_i fs hu
    have hf : P.fieldsOf T = fs := by unfold Program.fieldsOf; rw [hu]
    obtain ⟨hxs, hxr⟩ : xs.size = cs.length ∧ ∀ i (hi : i < cs.length), Rep w I (xs.getD i undef) cs[i] := by cases hx; exact ⟨by assumption, by assumption⟩
    obtain ⟨hys, hyr⟩ : ys.size = ds.length ∧ ∀ i (hi : i < ds.length), Rep w I (ys.getD i undef) ds[i] := by cases hy; exact ⟨by assumption, by assumption⟩
    show (Op.equalIn (9999 + 1) T _ _).run P w = _
    rw [run_equalIn_struct w 9999 T xs ys (by rw [hf]; exact hu) h2, hf]
    refine eqFs2 (I := I) 9997 fs.toList sh 0 cs ds h3 hs he (fun j hj => ?_) (fun j hj => ?_)
    · have := hxr j hj
      rw [Nat.zero_add]
      exact ⟨by omega, by simpa [List.getD, hj] using this⟩
    · have := hyr j hj
      rw [Nat.zero_add]
      exact ⟨by omega, by simpa [List.getD, hj] using this⟩
  · cases h3
end Go.Proofs.Ytbnkmhlnoaebcaa
