/-
  The walks and the laws that the statement leans on, part 9.
-/
import Derived.Test.YtfknbndmabogjaaDoorProg
import Derived.Test.YtfknbndmabogjaaDoorE6
import Derived.Test.YtfknbndmabogjaaDoorE8
namespace Go.Proofs.YtfknbndmabogjaaDoor
open Go
set_option linter.unusedVariables false
set_option linter.unusedSimpArgs false
theorem eqCells_cons (c d : AV) : ∀ r s, eqCells (c :: r) (d :: s) = ((eqCells [c] [d]).1 ∧ (eqCells r s).1, (eqCells [c] [d]).2 && (eqCells r s).2) := by
  intro r s
  cases c <;> cases d <;> try (simp [eqCells]; done)
  rename_i v w
  cases v <;> cases w <;> simp [eqCells]
theorem eqCells_append : ∀ (cs ds cs' ds' : List AV), cs.length = ds.length → eqCells (cs ++ cs') (ds ++ ds') = ((eqCells cs ds).1 ∧ (eqCells cs' ds').1, (eqCells cs ds).2 && (eqCells cs' ds').2)
  | [], [], cs', ds', _ => by simp [eqCells]
  | c :: cs, d :: ds, cs', ds', h => by
    rw [List.cons_append, List.cons_append, eqCells_cons, eqCells_append cs ds cs' ds' (by simpa using h), eqCells_cons c d cs ds]
    simp [and_assoc, Bool.and_assoc]
  | [], _ :: _, _, _, h => by simp at h
  | _ :: _, [], _, _, h => by simp at h
theorem eqFields_cons {P : Program} {w : World} {n : Nat} {xs ys : Array Value} {f : Field} {fs : List Field} {r : Bool} (h : (Op.eqFields n xs ys [f]).run P w = .ok r w) :
    (Op.eqFields n xs ys (f :: fs)).run P w = if r then (Op.eqFields n xs ys fs).run P w else .ok false w := by
  simp only [Op.eqFields] at h ⊢
  split at h
  · rename_i hn
    rw [if_pos hn]
    simp only [Sem.run_bind] at h ⊢
    cases e1 : (part f.type xs f.offset).run P w with
    | ok a w1 =>
      rw [e1] at h
      simp only [Result.andThen_ok, Sem.run_bind] at h ⊢
      cases e2 : (part f.type ys f.offset).run P w1 with
      | ok b w2 =>
        rw [e2] at h
        simp only [Result.andThen_ok, Sem.run_bind] at h ⊢
        cases e3 : (Op.equalIn n f.type a b).run P w2 with
        | ok c w3 =>
          rw [e3] at h
          simp only [Result.andThen_ok] at h ⊢
          cases c
          · simp at h; obtain ⟨rfl, rfl⟩ := h; simp
          · simp at h; obtain ⟨rfl, rfl⟩ := h; simp
        | halt x w3 => rw [e3] at h; simp [Result.andThen] at h
      | halt x w2 => rw [e2] at h; simp [Result.andThen] at h
    | halt x w1 => rw [e1] at h; simp [Result.andThen] at h
  · rename_i hn
    rw [if_neg hn]
    simp at h
    subst h
    simp
def subB (P : Program) (T : TypeId) (sh : List Nat) : Bool :=
  !P.stoodInHeld T && decide (tyc P T = some (some sh.length)) && match P.underlying T with
  | some (.struct fs) => flatFs P 0 fs.toList sh
  | _ => false
def flat2Fs (P : Program) : Nat → List Field → List Nat → Bool
  | _, [], [] => true
  | i, f :: fs, sh =>
    if (shpT P f.type != 0) = true then flatFs P i [f] (sh.take 1) && flat2Fs P (i + 1) fs (sh.drop 1)
    else match tyc P f.type with
      | some (some m) => f.name != "_" && f.offset == i && decide (m ≤ sh.length) && subB P f.type (sh.take m) && flat2Fs P (i + m) fs (sh.drop m)
      | _ => false
  | _, _, _ => false
def flat2B (P : Program) (T : TypeId) (sh : List Nat) : Bool :=
  !P.eqGuardType P.depth T && !P.stoodInHeld T && match P.underlying T with
  | some (.struct fs) => flat2Fs P 0 fs.toList sh
  | _ => false
theorem eqCells_len : ∀ (cs ds : List AV), (eqCells cs ds).1 → cs.length = ds.length
  | [], [], _ => rfl
  | c :: cs, d :: ds, h => by
    rw [eqCells_cons] at h
    simp [eqCells_len cs ds h.2]
  | [], d :: ds, h => by simp [eqCells] at h
  | c :: cs, [], h => by cases c <;> simp [eqCells] at h
theorem flatFs_len {P : Program} : ∀ (fs : List Field) (i : Nat) (sh : List Nat), flatFs P i fs sh = true → sh.length = fs.length
  | [], i, [], _ => rfl
  | [], i, _ :: _, h => by simp [flatFs] at h
  | f :: fs, i, [], h => by simp [flatFs] at h
  | f :: fs, i, s :: sh, h => by
    simp only [flatFs, Bool.and_eq_true] at h
    simp [flatFs_len fs (i + 1) sh h.2]
theorem eqFs2 {P : Program} {w : World} {I : Nat → Prop} {xs ys : Array Value} (n : Nat) : ∀ (fs : List Field) (sh : List Nat) (i : Nat) (cs ds : List AV), flat2Fs P i fs sh = true → cs.map shp = sh → (eqCells cs ds).1 →
    (∀ j, j < cs.length → i + j < xs.size ∧ Rep w I (xs.getD (i + j) undef) (cs.getD j .any)) → (∀ j, j < ds.length → i + j < ys.size ∧ Rep w I (ys.getD (i + j) undef) (ds.getD j .any)) →
    (Op.eqFields (n + 2) xs ys fs).run P w = .ok (eqCells cs ds).2 w
  | [], sh, i, cs, ds, hf, hs, he, hx, hy => by
    cases sh with
    | cons s ss => simp [flat2Fs] at hf
    | nil =>
      cases cs with
      | cons c cs => simp at hs
      | nil => cases ds with
        | cons d ds => simp [eqCells] at he
        | nil => simp [Op.eqFields, eqCells]
  | f :: fs, sh, i, cs, ds, hf, hs, he, hx, hy => by
    have hlen := eqCells_len cs ds he
    -- the field's own cells and the rest
    have step : ∀ m : Nat, m ≤ cs.length → (∀ c1 d1, c1 = cs.take m → d1 = ds.take m → (eqCells c1 d1).1 → (Op.eqFields (n + 2) xs ys [f]).run P w = .ok (eqCells c1 d1).2 w) →
        flat2Fs P (i + m) fs (sh.drop m) = true → (Op.eqFields (n + 2) xs ys (f :: fs)).run P w = .ok (eqCells cs ds).2 w := by
      intro m hm h1 h2
      have e := eqCells_append (cs.take m) (ds.take m) (cs.drop m) (ds.drop m) (by simp; omega)
      rw [List.take_append_drop, List.take_append_drop] at e
      rw [e] at he ⊢
      have ih := eqFs2 (w := w) (I := I) (xs := xs) (ys := ys) n fs (sh.drop m) (i + m) (cs.drop m) (ds.drop m) h2 (by rw [List.map_drop, hs]) he.2
        (fun j hj => by
          have := hx (m + j) (by simp at hj; omega)
          rw [show i + m + j = i + (m + j) by omega]
          refine ⟨this.1, ?_⟩
          have h3 := this.2
          simp only [List.getD, List.getElem?_drop] at h3 ⊢
          exact h3)
        (fun j hj => by
          have := hy (m + j) (by simp at hj; omega)
          rw [show i + m + j = i + (m + j) by omega]
          refine ⟨this.1, ?_⟩
          have h3 := this.2
          simp only [List.getD, List.getElem?_drop] at h3 ⊢
          exact h3)
      rw [eqFields_cons (h1 _ _ rfl rfl he.1)]
      cases hb : (eqCells (cs.take m) (ds.take m)).2
      · simp
      · simpa using ih
    have getx : ∀ (m : Nat) (j : Nat), j < (cs.take m).length → i + j < xs.size ∧ Rep w I (xs.getD (i + j) undef) ((cs.take m).getD j .any) := fun m j hj => by
      simp only [List.length_take] at hj
      have := hx j (by omega)
      refine ⟨this.1, ?_⟩
      have h3 := this.2
      simp only [List.getD, List.getElem?_take] at h3 ⊢
      rw [if_pos (by omega)]; exact h3
    have gety : ∀ (m : Nat) (j : Nat), j < (ds.take m).length → i + j < ys.size ∧ Rep w I (ys.getD (i + j) undef) ((ds.take m).getD j .any) := fun m j hj => by
      simp only [List.length_take] at hj
      have := hy j (by omega)
      refine ⟨this.1, ?_⟩
      have h3 := this.2
      simp only [List.getD, List.getElem?_take] at h3 ⊢
      rw [if_pos (by omega)]; exact h3
    unfold flat2Fs at hf
    split at hf
    · rename_i hp
      rw [Bool.and_eq_true] at hf
      have hl := flatFs_len _ _ _ hf.1
      have hcl : 1 ≤ cs.length := by rw [← hs, List.length_take, List.length_map] at hl; simp at hl; omega
      refine step 1 hcl (fun c1 d1 h1 h2 he1 => ?_) hf.2
      subst h1 h2
      exact eqFs (I := I) (n + 1) [f] (sh.take 1) i _ _ hf.1 (by rw [List.map_take, hs]) he1 (getx 1) (gety 1)
    · split at hf
      · rename_i m hm
        simp only [Bool.and_eq_true, bne_iff_ne, beq_iff_eq, decide_eq_true_eq] at hf
        obtain ⟨⟨⟨⟨h1, h2⟩, h3⟩, h4⟩, h5⟩ := hf
        have hcl : m ≤ cs.length := by rw [← hs, List.length_map] at h3; exact h3
        refine step m hcl (fun c1 d1 g1 g2 he1 => ?_) h5
        subst g1 g2
        unfold subB at h4
        simp only [Bool.and_eq_true, Bool.not_eq_true', decide_eq_true_eq] at h4
        obtain ⟨⟨h6, _⟩, h7⟩ := h4
        split at h7
        · rename_i gs hu
          have hfo : P.fieldsOf f.type = gs := by unfold Program.fieldsOf; rw [hu]
          obtain ⟨a1, a2⟩ := run_isAgg_many (w := w) hm
          have p : ∀ zs : Array Value, (part f.type zs f.offset).run P w = .ok (.agg (zs.extract i (i + m))) w := fun zs => by
            simp [part, a1, a2, h2]
          have he2 : (Op.equalIn (n + 2) f.type (.agg (xs.extract i (i + m))) (.agg (ys.extract i (i + m)))).run P w = .ok (eqCells (cs.take m) (ds.take m)).2 w := by
            rw [run_equalIn_struct w (n + 1) f.type _ _ (by rw [hfo]; exact hu) h6, hfo]
            refine eqFs (I := I) n gs.toList (sh.take m) 0 _ _ h7 (by rw [List.map_take, hs]) he1 (fun j hj => ?_) (fun j hj => ?_)
            · have := getx m j hj
              have hj2 : j < m := by simp at hj; omega
              refine ⟨by simp; omega, ?_⟩
              have e : (xs.extract i (i + m)).getD (0 + j) undef = xs.getD (i + j) undef := by
                simp only [Array.getD_eq_getD_getElem?, Array.getElem?_extract, Nat.zero_add]
                rw [if_pos (by omega)]
              rw [e]; exact this.2
            · have := gety m j hj
              have hj2 : j < m := by simp at hj; omega
              refine ⟨by simp; omega, ?_⟩
              have e : (ys.extract i (i + m)).getD (0 + j) undef = ys.getD (i + j) undef := by
                simp only [Array.getD_eq_getD_getElem?, Array.getElem?_extract, Nat.zero_add]
                rw [if_pos (by omega)]
              rw [e]; exact this.2
          simp only [Op.eqFields, h1, ne_eq, not_false_eq_true, if_true, Sem.run_bind, p, he2, Result.andThen_ok]
          cases (eqCells (cs.take m) (ds.take m)).2 <;> simp
        · cases h7
      · cases hf
theorem flatEq_of2 {P : Program} {T : TypeId} {sh : List Nat} (h : flat2B P T sh = true) : flatEq P T sh := by
  unfold flat2B at h
  simp only [Bool.and_eq_true, Bool.not_eq_true'] at h
  obtain ⟨⟨h1, h2⟩, h3⟩ := h
  refine ⟨h1, fun w I xs ys cs ds hs hx hy he => ?_⟩
  split at h3
  · rename_i fs hu
    have hf : P.fieldsOf T = fs := by unfold Program.fieldsOf; rw [hu]
    obtain ⟨hxs, hxr⟩ : xs.size = cs.length ∧ ∀ i (hi : i < cs.length), Rep w I (xs.getD i undef) cs[i] := by cases hx; exact ⟨by assumption, by assumption⟩
    obtain ⟨hys, hyr⟩ : ys.size = ds.length ∧ ∀ i (hi : i < ds.length), Rep w I (ys.getD i undef) ds[i] := by cases hy; exact ⟨by assumption, by assumption⟩
    show (Op.equalIn (9999 + 1) T _ _).run P w = _
    rw [run_equalIn_struct w 9999 T xs ys (by rw [hf]; exact hu) h2, hf]
    refine eqFs2 (I := I) 9997 fs.toList sh 0 cs ds h3 hs he (fun j hj => ?_) (fun j hj => ?_)
    · have := hxr j hj
      rw [Nat.zero_add]
      exact ⟨by omega, by simpa [List.getD, hj] using this⟩
    · have := hyr j hj
      rw [Nat.zero_add]
      exact ⟨by omega, by simpa [List.getD, hj] using this⟩
  · cases h3
end Go.Proofs.YtfknbndmabogjaaDoor
namespace Go.Proofs.YtfknbndmabogjaaDoor
open Go
theorem tyc0 : tyc Tryd.prog 0 = some none := by kernel_rfl
theorem tyc2 : tyc Tryd.prog 2 = some none := by kernel_rfl
theorem zmb2 : zmb Tryd.prog 2 = some (.cells [(.lit (.int .i64 0))] 1 2) := by kernel_rfl
theorem tyc3 : tyc Tryd.prog 3 = some none := by kernel_rfl
theorem zmb3 : zmb Tryd.prog 3 = some (.cells [(.lit (.int .i64 0))] 1 3) := by kernel_rfl
theorem tyc4 : tyc Tryd.prog 4 = some none := by kernel_rfl
theorem zmb4 : zmb Tryd.prog 4 = some (.cells [(.lit (.bool false))] 1 4) := by kernel_rfl
theorem tyc5 : tyc Tryd.prog 5 = some none := by kernel_rfl
theorem zmb5 : zmb Tryd.prog 5 = some (.cells [(.lit (.int .u8 0))] 1 5) := by kernel_rfl
theorem tyc9 : tyc Tryd.prog 9 = some none := by kernel_rfl
theorem zmb9 : zmb Tryd.prog 9 = some (.cells [(.lit (.string ⟨#[]⟩))] 1 9) := by kernel_rfl
theorem tyc21 : tyc Tryd.prog 21 = some none := by kernel_rfl
theorem zmb21 : zmb Tryd.prog 21 = some (.cells [(.lit (.int .i32 0))] 1 21) := by kernel_rfl
theorem tyc23 : tyc Tryd.prog 23 = some (some 5) := by kernel_rfl
theorem foff23_0 : foff Tryd.prog 23 0 = some 0 := by kernel_rfl
theorem fpart23_0 : fpart Tryd.prog 23 0 = some (0, none) := by kernel_rfl
theorem foff23_1 : foff Tryd.prog 23 1 = some 1 := by kernel_rfl
theorem fpart23_1 : fpart Tryd.prog 23 1 = some (1, none) := by kernel_rfl
theorem foff23_2 : foff Tryd.prog 23 2 = some 2 := by kernel_rfl
theorem fpart23_2 : fpart Tryd.prog 23 2 = some (2, none) := by kernel_rfl
theorem foff23_3 : foff Tryd.prog 23 3 = some 3 := by kernel_rfl
theorem fpart23_3 : fpart Tryd.prog 23 3 = some (3, none) := by kernel_rfl
theorem foff23_4 : foff Tryd.prog 23 4 = some 4 := by kernel_rfl
theorem fpart23_4 : fpart Tryd.prog 23 4 = some (4, none) := by kernel_rfl
theorem fe23 : flatEq Tryd.prog 23 [1, 1, 1, 1, 1] := flatEq_of (by kernel_rfl)
theorem zmb23 : zmb Tryd.prog 23 = some (.cells [(.lit (.int .i64 0)), (.lit (.int .i64 0)), (.lit (.int .i64 0)), (.lit (.int .i64 0)), (.lit (.int .i64 0))] 5 23) := by kernel_rfl
theorem bldT23 : bldT Tryd.prog 23 = some ([(.int .i64 0), (.int .i64 0), (.int .i64 0), (.int .i64 0), (.int .i64 0)], [(0, 1), (1, 1), (2, 1), (3, 1), (4, 1)]) := by kernel_rfl
theorem tyc24 : tyc Tryd.prog 24 = some none := by kernel_rfl
theorem elt24 : elt Tryd.prog 24 = some (none, 9) := by kernel_rfl
theorem mkz24 : mkz Tryd.prog 24 = none := by kernel_rfl
theorem mkc24 : mkc Tryd.prog 24 = some (38, 9, 88, [(.lit (.string ⟨#[]⟩)), (.lit (.string ⟨#[]⟩)), (.lit (.bool false)), (.lit (.int .u64 0)), (.lit (.bool false)), (.lit (.int .i64 0)), (.lit (.int .i64 0)), (.lit (.int .i64 0)), (.lit (.bool false))]) := by kernel_rfl
theorem apT24 : apT Tryd.prog 24 = some (38, 9, 88) := by kernel_rfl
theorem elk24 : elk Tryd.prog 24 = none := by kernel_rfl
theorem zmb24 : zmb Tryd.prog 24 = some (.cells [(.lit (.slice none 0 0))] 1 24) := by kernel_rfl
theorem tyc25 : tyc Tryd.prog 25 = some none := by kernel_rfl
theorem zmb25 : zmb Tryd.prog 25 = some (.cells [(.lit (.int .u64 0))] 1 25) := by kernel_rfl
theorem tyc27 : tyc Tryd.prog 27 = some (some 2) := by kernel_rfl
theorem foff27_0 : foff Tryd.prog 27 0 = some 0 := by kernel_rfl
theorem fpart27_0 : fpart Tryd.prog 27 0 = some (0, none) := by kernel_rfl
theorem foff27_1 : foff Tryd.prog 27 1 = some 1 := by kernel_rfl
theorem fpart27_1 : fpart Tryd.prog 27 1 = some (1, none) := by kernel_rfl
theorem zmb27 : zmb Tryd.prog 27 = some (.cells [(.lit (.slice none 0 0)), (.lit (.int .u64 0))] 2 27) := by kernel_rfl
theorem bldT27 : bldT Tryd.prog 27 = some ([(.slice none 0 0), (.int .u64 0)], [(0, 1), (1, 1)]) := by kernel_rfl
theorem tyc29 : tyc Tryd.prog 29 = some (some 5) := by kernel_rfl
theorem foff29_0 : foff Tryd.prog 29 0 = some 0 := by kernel_rfl
theorem fpart29_0 : fpart Tryd.prog 29 0 = some (0, none) := by kernel_rfl
theorem foff29_1 : foff Tryd.prog 29 1 = some 1 := by kernel_rfl
theorem fpart29_1 : fpart Tryd.prog 29 1 = some (1, none) := by kernel_rfl
theorem foff29_2 : foff Tryd.prog 29 2 = some 2 := by kernel_rfl
theorem fpart29_2 : fpart Tryd.prog 29 2 = some (2, none) := by kernel_rfl
theorem foff29_3 : foff Tryd.prog 29 3 = some 3 := by kernel_rfl
theorem fpart29_3 : fpart Tryd.prog 29 3 = some (3, none) := by kernel_rfl
theorem foff29_4 : foff Tryd.prog 29 4 = some 4 := by kernel_rfl
theorem fpart29_4 : fpart Tryd.prog 29 4 = some (4, none) := by kernel_rfl
theorem fe29 : flatEq Tryd.prog 29 [3, 3, 2, 1, 2] := flatEq_of (by kernel_rfl)
theorem zmb29 : zmb Tryd.prog 29 = some (.cells [(.lit (.string ⟨#[]⟩)), (.lit (.string ⟨#[]⟩)), (.lit (.bool false)), (.lit (.int .u64 0)), (.lit (.bool false))] 5 29) := by kernel_rfl
theorem bldT29 : bldT Tryd.prog 29 = some ([(.string ⟨#[]⟩), (.string ⟨#[]⟩), (.bool false), (.int .u64 0), (.bool false)], [(0, 1), (1, 1), (2, 1), (3, 1), (4, 1)]) := by kernel_rfl
theorem tyc34 : tyc Tryd.prog 34 = some none := by kernel_rfl
theorem zmb34 : zmb Tryd.prog 34 = some (.cells [(.lit (.int .i64 0))] 1 34) := by kernel_rfl
theorem tyc35 : tyc Tryd.prog 35 = some none := by kernel_rfl
theorem tyc38 : tyc Tryd.prog 38 = some (some 9) := by kernel_rfl
theorem foff38_0 : foff Tryd.prog 38 0 = some 0 := by kernel_rfl
theorem fpart38_0 : fpart Tryd.prog 38 0 = some (0, (some 5)) := by kernel_rfl
theorem foff38_1 : foff Tryd.prog 38 1 = some 5 := by kernel_rfl
theorem fpart38_1 : fpart Tryd.prog 38 1 = some (5, none) := by kernel_rfl
theorem foff38_2 : foff Tryd.prog 38 2 = some 6 := by kernel_rfl
theorem fpart38_2 : fpart Tryd.prog 38 2 = some (6, none) := by kernel_rfl
theorem foff38_3 : foff Tryd.prog 38 3 = some 7 := by kernel_rfl
theorem fpart38_3 : fpart Tryd.prog 38 3 = some (7, none) := by kernel_rfl
theorem foff38_4 : foff Tryd.prog 38 4 = some 8 := by kernel_rfl
theorem fpart38_4 : fpart Tryd.prog 38 4 = some (8, none) := by kernel_rfl
theorem zmb38 : zmb Tryd.prog 38 = some (.cells [(.lit (.string ⟨#[]⟩)), (.lit (.string ⟨#[]⟩)), (.lit (.bool false)), (.lit (.int .u64 0)), (.lit (.bool false)), (.lit (.int .i64 0)), (.lit (.int .i64 0)), (.lit (.int .i64 0)), (.lit (.bool false))] 9 38) := by kernel_rfl
theorem bldT38 : bldT Tryd.prog 38 = some ([(.string ⟨#[]⟩), (.string ⟨#[]⟩), (.bool false), (.int .u64 0), (.bool false), (.int .i64 0), (.int .i64 0), (.int .i64 0), (.bool false)], [(0, 5), (5, 1), (6, 1), (7, 1), (8, 1)]) := by kernel_rfl
theorem tyc43 : tyc Tryd.prog 43 = some none := by kernel_rfl
theorem elt43 : elt Tryd.prog 43 = some (none, 5) := by kernel_rfl
theorem mkz43 : mkz Tryd.prog 43 = none := by kernel_rfl
theorem mkc43 : mkc Tryd.prog 43 = some (29, 5, 56, [(.lit (.string ⟨#[]⟩)), (.lit (.string ⟨#[]⟩)), (.lit (.bool false)), (.lit (.int .u64 0)), (.lit (.bool false))]) := by kernel_rfl
theorem apT43 : apT Tryd.prog 43 = some (29, 5, 56) := by kernel_rfl
theorem elk43 : elk Tryd.prog 43 = none := by kernel_rfl
theorem zmb43 : zmb Tryd.prog 43 = some (.cells [(.lit (.slice none 0 0))] 1 43) := by kernel_rfl
theorem tyc53 : tyc Tryd.prog 53 = some none := by kernel_rfl
theorem elt53 : elt Tryd.prog 53 = some (none, 1) := by kernel_rfl
theorem mkz53 : mkz Tryd.prog 53 = some (5, 1, .u8) := by kernel_rfl
theorem apT53 : apT Tryd.prog 53 = some (5, 1, 1) := by kernel_rfl
theorem elk53 : elk Tryd.prog 53 = (some .u8) := by kernel_rfl
theorem zmb53 : zmb Tryd.prog 53 = some (.cells [(.lit (.slice none 0 0))] 1 53) := by kernel_rfl
theorem tyc55 : tyc Tryd.prog 55 = some none := by kernel_rfl
theorem mth55_86 : mthOf Tryd.prog 55 "firebell/wire.fail" = some 86 := by kernel_rfl
theorem mth55_89 : mthOf Tryd.prog 55 "firebell/wire.get" = some 89 := by kernel_rfl
theorem mth55_88 : mthOf Tryd.prog 55 "firebell/wire.take" = some 88 := by kernel_rfl
theorem con55 : Tryd.prog.concrete 55 = true := by kernel_rfl
theorem zmb55 : zmb Tryd.prog 55 = some (.cells [(.lit (.pointer none))] 1 55) := by kernel_rfl
theorem tyc60 : tyc Tryd.prog 60 = some none := by kernel_rfl
theorem tyc75 : tyc Tryd.prog 75 = some none := by kernel_rfl
theorem zmb75 : zmb Tryd.prog 75 = some (.cells [(.lit .nilFunc)] 1 75) := by kernel_rfl
theorem tyc88 : tyc Tryd.prog 88 = some (some 2) := by kernel_rfl
theorem foff88_0 : foff Tryd.prog 88 0 = some 0 := by kernel_rfl
theorem fpart88_0 : fpart Tryd.prog 88 0 = some (0, none) := by kernel_rfl
theorem foff88_1 : foff Tryd.prog 88 1 = some 1 := by kernel_rfl
theorem fpart88_1 : fpart Tryd.prog 88 1 = some (1, none) := by kernel_rfl
theorem zmb88 : zmb Tryd.prog 88 = some (.cells [(.lit (.slice none 0 0)), (.lit (.bool false))] 2 88) := by kernel_rfl
theorem bldT88 : bldT Tryd.prog 88 = some ([(.slice none 0 0), (.bool false)], [(0, 1), (1, 1)]) := by kernel_rfl
theorem tyc95 : tyc Tryd.prog 95 = some none := by kernel_rfl
theorem tyc97 : tyc Tryd.prog 97 = some none := by kernel_rfl
theorem tyc99 : tyc Tryd.prog 99 = some none := by kernel_rfl
theorem elt99 : elt Tryd.prog 99 = some (none, 1) := by kernel_rfl
theorem mkz99 : mkz Tryd.prog 99 = some (25, 8, .u64) := by kernel_rfl
theorem apT99 : apT Tryd.prog 99 = some (25, 1, 8) := by kernel_rfl
theorem elk99 : elk Tryd.prog 99 = (some .u64) := by kernel_rfl
theorem zmb99 : zmb Tryd.prog 99 = some (.cells [(.lit (.slice none 0 0))] 1 99) := by kernel_rfl
theorem tyc108 : tyc Tryd.prog 108 = some none := by kernel_rfl
theorem elt108 : elt Tryd.prog 108 = some (none, 8) := by kernel_rfl
theorem mkz108 : mkz Tryd.prog 108 = none := by kernel_rfl
theorem mkc108 : mkc Tryd.prog 108 = some (143, 8, 104, [(.lit (.string ⟨#[]⟩)), (.lit (.int .u32 0)), (.lit (.int .i64 0)), (.lit (.int .i64 0)), (.lit (.int .i64 0)), (.lit (.int .i64 0)), (.lit (.slice none 0 0)), (.lit (.slice none 0 0))]) := by kernel_rfl
theorem apT108 : apT Tryd.prog 108 = some (143, 8, 104) := by kernel_rfl
theorem elk108 : elk Tryd.prog 108 = none := by kernel_rfl
theorem zmb108 : zmb Tryd.prog 108 = some (.cells [(.lit (.slice none 0 0))] 1 108) := by kernel_rfl
theorem tyc110 : tyc Tryd.prog 110 = some (some 6) := by kernel_rfl
theorem foff110_0 : foff Tryd.prog 110 0 = some 0 := by kernel_rfl
theorem fpart110_0 : fpart Tryd.prog 110 0 = some (0, none) := by kernel_rfl
theorem foff110_1 : foff Tryd.prog 110 1 = some 1 := by kernel_rfl
theorem fpart110_1 : fpart Tryd.prog 110 1 = some (1, (some 5)) := by kernel_rfl
theorem zmb110 : zmb Tryd.prog 110 = some (.cells [(.lit (.slice none 0 0)), (.lit (.int .i64 0)), (.lit (.int .i64 0)), (.lit (.int .i64 0)), (.lit (.int .i64 0)), (.lit (.int .i64 0))] 6 110) := by kernel_rfl
theorem bldT110 : bldT Tryd.prog 110 = some ([(.slice none 0 0), (.int .i64 0), (.int .i64 0), (.int .i64 0), (.int .i64 0), (.int .i64 0)], [(0, 1), (1, 5)]) := by kernel_rfl
theorem tyc118 : tyc Tryd.prog 118 = some none := by kernel_rfl
theorem tyc120 : tyc Tryd.prog 120 = some none := by kernel_rfl
theorem tyc125 : tyc Tryd.prog 125 = some (some 4) := by kernel_rfl
theorem foff125_0 : foff Tryd.prog 125 0 = some 0 := by kernel_rfl
theorem fpart125_0 : fpart Tryd.prog 125 0 = some (0, none) := by kernel_rfl
theorem foff125_1 : foff Tryd.prog 125 1 = some 1 := by kernel_rfl
theorem fpart125_1 : fpart Tryd.prog 125 1 = some (1, none) := by kernel_rfl
theorem foff125_2 : foff Tryd.prog 125 2 = some 2 := by kernel_rfl
theorem fpart125_2 : fpart Tryd.prog 125 2 = some (2, none) := by kernel_rfl
theorem foff125_3 : foff Tryd.prog 125 3 = some 3 := by kernel_rfl
theorem fpart125_3 : fpart Tryd.prog 125 3 = some (3, none) := by kernel_rfl
theorem fe125 : flatEq Tryd.prog 125 [1, 1, 3, 2] := flatEq_of (by kernel_rfl)
theorem zmb125 : zmb Tryd.prog 125 = some (.cells [(.lit (.int .u64 0)), (.lit (.int .i64 0)), (.lit (.string ⟨#[]⟩)), (.lit (.bool false))] 4 125) := by kernel_rfl
theorem bldT125 : bldT Tryd.prog 125 = some ([(.int .u64 0), (.int .i64 0), (.string ⟨#[]⟩), (.bool false)], [(0, 1), (1, 1), (2, 1), (3, 1)]) := by kernel_rfl
theorem tyc126 : tyc Tryd.prog 126 = some none := by kernel_rfl
theorem tyc129 : tyc Tryd.prog 129 = some (some 2) := by kernel_rfl
theorem foff129_0 : foff Tryd.prog 129 0 = some 0 := by kernel_rfl
theorem fpart129_0 : fpart Tryd.prog 129 0 = some (0, none) := by kernel_rfl
theorem foff129_1 : foff Tryd.prog 129 1 = some 1 := by kernel_rfl
theorem fpart129_1 : fpart Tryd.prog 129 1 = some (1, none) := by kernel_rfl
theorem fe129 : flatEq Tryd.prog 129 [1, 1] := flatEq_of (by kernel_rfl)
theorem zmb129 : zmb Tryd.prog 129 = some (.cells [(.lit (.int .i64 0)), (.lit (.int .i64 0))] 2 129) := by kernel_rfl
theorem bldT129 : bldT Tryd.prog 129 = some ([(.int .i64 0), (.int .i64 0)], [(0, 1), (1, 1)]) := by kernel_rfl
theorem tyc130 : tyc Tryd.prog 130 = some none := by kernel_rfl
theorem elt130 : elt Tryd.prog 130 = some (none, 2) := by kernel_rfl
theorem mkz130 : mkz Tryd.prog 130 = none := by kernel_rfl
theorem mkc130 : mkc Tryd.prog 130 = some (129, 2, 16, [(.lit (.int .i64 0)), (.lit (.int .i64 0))]) := by kernel_rfl
theorem apT130 : apT Tryd.prog 130 = some (129, 2, 16) := by kernel_rfl
theorem elk130 : elk Tryd.prog 130 = none := by kernel_rfl
theorem zmb130 : zmb Tryd.prog 130 = some (.cells [(.lit (.slice none 0 0))] 1 130) := by kernel_rfl
theorem tyc131 : tyc Tryd.prog 131 = some none := by kernel_rfl
theorem elt131 : elt Tryd.prog 131 = some (none, 4) := by kernel_rfl
theorem mkz131 : mkz Tryd.prog 131 = none := by kernel_rfl
theorem mkc131 : mkc Tryd.prog 131 = some (125, 4, 40, [(.lit (.int .u64 0)), (.lit (.int .i64 0)), (.lit (.string ⟨#[]⟩)), (.lit (.bool false))]) := by kernel_rfl
theorem apT131 : apT Tryd.prog 131 = some (125, 4, 40) := by kernel_rfl
theorem elk131 : elk Tryd.prog 131 = none := by kernel_rfl
theorem zmb131 : zmb Tryd.prog 131 = some (.cells [(.lit (.slice none 0 0))] 1 131) := by kernel_rfl
theorem tyc132 : tyc Tryd.prog 132 = some none := by kernel_rfl
theorem elt132 : elt Tryd.prog 132 = some (none, 1) := by kernel_rfl
theorem mkz132 : mkz Tryd.prog 132 = some (21, 4, .i32) := by kernel_rfl
theorem apT132 : apT Tryd.prog 132 = some (21, 1, 4) := by kernel_rfl
theorem elk132 : elk Tryd.prog 132 = (some .i32) := by kernel_rfl
theorem zmb132 : zmb Tryd.prog 132 = some (.cells [(.lit (.slice none 0 0))] 1 132) := by kernel_rfl
theorem tyc143 : tyc Tryd.prog 143 = some (some 8) := by kernel_rfl
theorem foff143_0 : foff Tryd.prog 143 0 = some 0 := by kernel_rfl
theorem fpart143_0 : fpart Tryd.prog 143 0 = some (0, none) := by kernel_rfl
theorem foff143_1 : foff Tryd.prog 143 1 = some 1 := by kernel_rfl
theorem fpart143_1 : fpart Tryd.prog 143 1 = some (1, none) := by kernel_rfl
theorem foff143_2 : foff Tryd.prog 143 2 = some 2 := by kernel_rfl
theorem fpart143_2 : fpart Tryd.prog 143 2 = some (2, none) := by kernel_rfl
theorem foff143_3 : foff Tryd.prog 143 3 = some 3 := by kernel_rfl
theorem fpart143_3 : fpart Tryd.prog 143 3 = some (3, none) := by kernel_rfl
theorem foff143_4 : foff Tryd.prog 143 4 = some 4 := by kernel_rfl
theorem fpart143_4 : fpart Tryd.prog 143 4 = some (4, none) := by kernel_rfl
theorem foff143_5 : foff Tryd.prog 143 5 = some 5 := by kernel_rfl
theorem fpart143_5 : fpart Tryd.prog 143 5 = some (5, none) := by kernel_rfl
theorem foff143_6 : foff Tryd.prog 143 6 = some 6 := by kernel_rfl
theorem fpart143_6 : fpart Tryd.prog 143 6 = some (6, none) := by kernel_rfl
theorem foff143_7 : foff Tryd.prog 143 7 = some 7 := by kernel_rfl
theorem fpart143_7 : fpart Tryd.prog 143 7 = some (7, none) := by kernel_rfl
theorem zmb143 : zmb Tryd.prog 143 = some (.cells [(.lit (.string ⟨#[]⟩)), (.lit (.int .u32 0)), (.lit (.int .i64 0)), (.lit (.int .i64 0)), (.lit (.int .i64 0)), (.lit (.int .i64 0)), (.lit (.slice none 0 0)), (.lit (.slice none 0 0))] 8 143) := by kernel_rfl
theorem bldT143 : bldT Tryd.prog 143 = some ([(.string ⟨#[]⟩), (.int .u32 0), (.int .i64 0), (.int .i64 0), (.int .i64 0), (.int .i64 0), (.slice none 0 0), (.slice none 0 0)], [(0, 1), (1, 1), (2, 1), (3, 1), (4, 1), (5, 1), (6, 1), (7, 1)]) := by kernel_rfl
theorem tyc148 : tyc Tryd.prog 148 = some none := by kernel_rfl
theorem zmb148 : zmb Tryd.prog 148 = some (.cells [(.lit .nilFunc)] 1 148) := by kernel_rfl
theorem tyc150 : tyc Tryd.prog 150 = some none := by kernel_rfl
theorem zmb150 : zmb Tryd.prog 150 = some (.cells [(.lit (.int .u64 0))] 1 150) := by kernel_rfl
theorem tyc154 : tyc Tryd.prog 154 = some none := by kernel_rfl
theorem zmb154 : zmb Tryd.prog 154 = some (.cells [(.lit (.map none))] 1 154) := by kernel_rfl
theorem mixed : Tryd.prog.follows .mixedOrders = true := by kernel_rfl
end Go.Proofs.YtfknbndmabogjaaDoor
namespace Go.Proofs.YtfknbndmabogjaaDoor
open Go
set_option linter.unusedVariables false
set_option linter.unusedSimpArgs false
section
variable {P : Program} {cx : Cx} {n : Nat} {ops : Array Oper} {H : Hp}
theorem Ok.permH {env : List (Nat × AV)} {H H' : Hp} {a : Act} {w : World} (hp : H.Perm H') (ok : Ok cx n ⟨env, H⟩ a w) : Ok cx n ⟨env, H'⟩ a w :=
  ⟨ok.defers, ok.size, fun t => (ok.reps t).mono fun b hb => ⟨(imm_perm hp).1 hb, rfl⟩, ok.world.perm hp⟩
theorem fresh_app {E H : Hp} (h : ((E ++ H).map (·.1)).Nodup) : ∀ p ∈ E, fresh H p.1 := by
  intro p hp x hx
  rw [List.map_append, List.nodup_append] at h
  have := h.2.2 p.1 (List.mem_map_of_mem hp) x.1 (List.mem_map_of_mem hx)
  exact ⟨fun he => this he.symm, this⟩
def alF (P : Program) (n : Nat) (K : St → Prop) : List Oper → St → Prop
  | [], s => K s
  | o :: r, s => match o with
    | ⟨some t, .alloc T, _, _, _, none⟩ => match zmb P T with
      | some m => t < n ∧ newB s.H m fun b H => alF P n K r ⟨(t, pt b 0) :: s.env, H⟩
      | none => False
    | _ => False
def drawAF (P : Program) (n : Nat) (l : List Oper) (K : St → Prop) (p r : Nat) (s : St) : Prop :=
  dvc P n l.toArray (l.take p) (fun s1 => alF P n (fun s2 => rvc P n l.toArray (l.drop (p + r)) K s2) ((l.drop p).take r) s1) s
end
end Go.Proofs.YtfknbndmabogjaaDoor
namespace Go.Proofs.YtfknbndmabogjaaDoor
open Go
set_option linter.unusedSimpArgs false
set_option linter.unusedVariables false
section
variable {P : Program} {cx : Cx} {n : Nat} {ops : Array Oper} {H : Hp}
structure QB where
  is : Nat
  b : Nat
  off : Nat
  m0 : MB
  m1 : MB
def SeqS (P : Program) (cx : Cx) (n : Nat) (ops : Array Oper) (H : Hp) (lx : List (Oper × AV)) (env : List (Nat × AV)) (q : QB) : Prop :=
  SeqG (fun i o x env => if i = q.is then o.guard = none ∧ x = .any ∧ o.dst = none ∧ ∃ T a y, o.op = .store T a y ∧ (og env a).1 ∧ (og env a).2 = pt q.b q.off ∧ (og env y).1 ∧
      (stC P T q.m0 q.off (og env y).2).1 ∧ (stC P T q.m0 q.off (og env y).2).2 = q.m1
    else StdyE P cx n ops o env H x) lx env
structure DInvS (cx : Cx) (n : Nat) (ops : Array Oper) (lx : List (Oper × AV)) (env : List (Nat × AV)) (H : Hp) (q : QB) (listed : Array Bool) (a : Act) (w : World) : Prop where
  lsize : listed.size = ops.size
  inv : DInv cx n ops lx env ((q.b, if listed.getD q.is false then q.m1 else q.m0) :: H) listed a w
theorem dinvS_step {lx : List (Oper × AV)} {env : List (Nat × AV)} {q : QB} {listed : Array Bool} {a : Act} {w : World} {i : Nat} (hD : DrawOk ops lx.length) (hlx : ∀ (j : Nat) o x, lx[j]? = some (o, x) → ops[j]? = some o)
    (hS : SeqS P cx n ops H lx env q) (hfr : fresh H q.b)
    (inv : DInvS cx n ops lx env H q listed a w) (hi : i ∈ Region.ready .any ops listed) (hik : i < lx.length) {R : Exit → Act → World → Prop} {X : Act → World → Prop}
    (hX : ∀ a' w', DInvS cx n ops lx env H q (listed.setIfInBounds i true) a' w' → X a' w') : wpOp P ops R i X a w := by
  obtain ⟨⟨o, x⟩, hp⟩ : ∃ p, lx[i] = p := ⟨_, rfl⟩
  have hli : lx[i]? = some (o, x) := by rw [List.getElem?_eq_getElem hik, hp]
  have hoi := hlx i o x hli
  have hSi := hS i o x hli
  have hilt : i < ops.size := (Array.getElem?_eq_some_iff.1 hoi).1
  have hset : ∀ j, (listed.setIfInBounds i true).getD j false = if j = i then true else listed.getD j false := by
    intro j
    by_cases hji : j = i
    · subst hji
      have : j < listed.size := by rw [inv.lsize]; exact hilt
      simp [this]
    · rw [if_neg hji, getD_set_ne false (Ne.symm hji)]
  have hls : (listed.setIfInBounds i true).size = ops.size := by simp [inv.lsize]
  have hinv := inv.inv
  by_cases his : i = q.is
  · try dsimp only at hSi
    rw [if_pos his] at hSi
    obtain ⟨hg, rfl, hdn, T, ad, y, hop, ha1, ha2, hy1, hy2, hy3⟩ := hSi
    have hun : listed.getD q.is false = false := by
      have := (mem_ready.1 hi).1
      rw [getD_bool (by rw [inv.lsize]; exact hilt), his] at this
      exact this
    rw [hun] at hinv
    simp only [Bool.false_eq_true, if_false] at hinv
    have hlook := dinv_look hD hlx hinv hi hli
    have hoeq : ∀ z ∈ o.op.operands, og (envL (fun j => listed.getD j false) lx 0 env) z = og (envL (fun j => decide (j < i)) lx 0 env) z := by
      intro z hz
      refine og_congr (opd_congr fun t ht => ?_)
      subst ht
      exact hlook t (by unfold Oper.looksAt; exact List.mem_append_left _ (List.mem_filterMap.2 ⟨Operand.tmp t, by simpa using hz, rfl⟩))
    have ea := hoeq ad (by rw [hop]; simp [Op.operands])
    have ey := hoeq y (by rw [hop]; simp [Op.operands])
    have hrep := hinv.ok.og (x := y) (by simp only; rw [ey]; exact hy1)
    simp only [ey] at hrep
    have hra := hinv.ok.og (x := ad) (by simp only; rw [ea]; exact ha1)
    simp only [ea, ha2] at hra
    have he := hra.lit_inv
    obtain ⟨w', r1, r2, r3⟩ := run_store_of (P := P) (H := (q.b, q.m0) :: H) hinv.ok.world (b := q.b) (off := q.off) (m := q.m0) (by simp [hget]) hrep hy2
    rw [hy3] at r2 r3
    simp only [hset, Proofs.YtfknbndmabogjaaDoor.hset, if_true] at r2 r3
    have hrun : (execOp a.eval o).run P w = .ok .skip w' := by
      simp only [execOp, hop, Sem.run_bind, he, r1, Result.andThen_ok, Sem.run_pure]
    unfold wpOp
    rw [hoi]
    simp only
    rw [if_pos (by simp [Region.wanted, hg])]
    refine .inl ?_
    unfold Oper.wp
    rw [hrun]
    have hd := dinv_put (v := undef) hD hlx hinv hi hli (by rw [hdn]; trivial) (.any _) r2 r3
    have hXX : X (a.put o.dst undef) w' := by
      refine hX _ _ ⟨hls, ?_⟩
      have hiss : (listed.setIfInBounds i true).getD q.is false = true := by rw [hset, if_pos his.symm]
      rw [hiss, if_pos rfl]
      exact hd
    exact hXX
  · try dsimp only at hSi
    rw [if_neg his] at hSi
    refine dinv_stepS hD hlx hli (hSi _ (fresh_one hfr)) hinv hi fun v w' hd => hX _ _ ⟨hls, ?_⟩
    have e : (listed.setIfInBounds i true).getD q.is false = listed.getD q.is false := by rw [hset, if_neg (fun h => his h.symm)]
    rw [e]; exact hd
def drawSF (P : Program) (n : Nat) (l : List Oper) (K : St → Prop) (is k : Nat) (s : St) : Prop :=
  match l.drop is with
  | ⟨none, .store T a y, _, _, _, none⟩ :: q => match (og s.env a).2 with
    | .lit (.pointer (some ⟨b, off, none⟩)) => match hget s.H b with
      | some m0 => dvc P n l.toArray (l.take is) (fun s2 => (og s2.env a).1 ∧ (og s2.env a).2 = pt b off ∧ (og s2.env y).1 ∧ (stC P T m0 off (og s2.env y).2).1 ∧
          dvc P n l.toArray (q.take (k - is - 1)) (fun s3 => rvc P n l.toArray (q.drop (k - is - 1)) K ⟨s3.env, (b, (stC P T m0 off (og s2.env y).2).2) :: s3.H⟩) s2) ⟨s.env, hdel s.H b⟩
      | none => False
    | _ => False
  | _ => False
theorem WP.drawS {id k is : Nat} {l : List Oper} {Q : Exit → St → Prop} {s : St} (hm : P.follows .mixedOrders = true) (hB : drawB l.toArray k = true) (hA : (decide (is < k) && decide (k ≤ l.length)) = true)
    (h : drawSF P n l (Q .normal) is k s) : WP P cx n (.region id l.toArray true) Q s := by
  intro a w ok0
  have hD := drawB_spec hB
  simp only [Bool.and_eq_true, decide_eq_true_eq] at hA
  obtain ⟨hisk, hkl⟩ := hA
  unfold drawSF at h
  split at h
  case h_2 => exact h.elim
  rename_i T ad y ty2 p2 af2 q hq
  split at h
  case h_2 => exact h.elim
  rename_i b off hpt
  split at h
  case h_2 => exact h.elim
  rename_i m0 hg
  have ok : Ok cx n ⟨s.env, (b, m0) :: hdel s.H b⟩ a w := Ok.permH (hget_perm hg) ok0
  have hfr : fresh (hdel s.H b) b := fun p hp => ⟨(hdel_mem ok0.world.nodup p hp).2, Ne.symm (hdel_mem ok0.world.nodup p hp).2⟩
  generalize hH0 : hdel s.H b = H0 at h ok hfr
  obtain ⟨xs2, x2, S2, K2⟩ := dvc_seqvE (cx := cx) _ _ h
  simp only at K2 S2
  obtain ⟨ha1, ha2, hy1, hy2, K2⟩ := K2
  obtain ⟨xs3, x3, S3, K3⟩ := dvc_seqvE (cx := cx) _ _ K2
  simp only at K3 S3
  obtain ⟨st, hst⟩ : ∃ st : Oper, st = ⟨none, .store T ad y, ty2, p2, af2, none⟩ := ⟨_, rfl⟩
  rw [← hst] at hq
  generalize hA2 : (l.take is).zip xs2 = A2 at S2 K2 K3 S3 hy1 hy2 ha1 ha2
  generalize hA3 : (q.take (k - is - 1)).zip xs3 = A3 at S3 K3
  have hlq : q.length = l.length - is - 1 := by have := congrArg List.length hq; simp at this; omega
  have l2 : A2.length = is := by rw [← hA2]; simp [x2]; omega
  have l3 : A3.length = k - is - 1 := by rw [← hA3]; simp [x3]; omega
  have f2 : A2.map (·.1) = l.take is := by rw [← hA2]; exact List.map_fst_zip (by omega)
  have f3 : A3.map (·.1) = q.take (k - is - 1) := by rw [← hA3]; exact List.map_fst_zip (by omega)
  obtain ⟨lx, hlxe⟩ : ∃ lx, lx = A2 ++ ([(st, AV.any)] ++ A3) := ⟨_, rfl⟩
  have hfst : lx.map (·.1) = l.take k := by
    have e1 : l.take k = l.take is ++ (l.drop is).take (k - is) := by rw [← List.take_add]; congr 1; omega
    have e4 : (st :: q).take (k - is) = st :: q.take (k - is - 1) := by rw [show k - is = (k - is - 1) + 1 by omega]; rfl
    rw [e1, hq, e4, hlxe]
    simp [f2, f3]
  have hlen : lx.length = k := by have := congrArg List.length hfst; simp at this; omega
  have hlx : ∀ (j : Nat) o x, lx[j]? = some (o, x) → l.toArray[j]? = some o := by
    intro j o x hj
    have h1 : (lx.map (·.1))[j]? = some o := by rw [List.getElem?_map, hj]; rfl
    rw [hfst, List.getElem?_take] at h1
    split at h1
    · simpa using h1
    · cases h1
  have hdrop : q.drop (k - is - 1) = l.drop k := by
    have e1 : l.drop k = (l.drop is).drop (k - is) := by rw [List.drop_drop]; congr 1; omega
    have e4 : (st :: q).drop (k - is) = q.drop (k - is - 1) := by rw [show k - is = (k - is - 1) + 1 by omega]; rfl
    rw [e1, hq, e4]
  have henvA : envL (fun _ => true) lx 0 s.env = envL (fun _ => true) A3 0 (envL (fun _ => true) A2 0 s.env) := by
    rw [hlxe, envL_append, envL_append, Nat.zero_add]
    simp only [envL, if_true, hst, putE]
    rw [show A2.length + [(({ dst := none, op := .store T ad y, type := ty2, pos := p2, after := af2, guard := none } : Oper), AV.any)].length = A2.length + 1 + 0 from rfl, envL_shiftk (A2.length + 1) A3 0]
  obtain ⟨pb, hpb⟩ : ∃ pb : QB, pb = ⟨is, b, off, m0, (stC P T m0 off (og (envL (fun _ => true) A2 0 s.env) y).2).2⟩ := ⟨_, rfl⟩
  have hSP : SeqS P cx n l.toArray H0 lx s.env pb := by
    unfold SeqS
    rw [hlxe]
    refine SeqG.app (fun i o x hi => ?_) (SeqG.app (SeqG.one ?_) fun i o x hi => ?_)
    · have hlt := (List.getElem?_eq_some_iff.1 hi).1
      try dsimp only
      rw [if_neg (by rw [hpb]; simp only; omega)]
      exact S2 i o x hi
    · try dsimp only
      rw [if_pos (by rw [hpb]; simp only; omega), hpb, hst]
      refine ⟨rfl, rfl, rfl, T, ad, y, rfl, ha1, ha2, hy1, hy2, ?_⟩
      first | rfl | trivial
    · have hlt := (List.getElem?_eq_some_iff.1 hi).1
      try dsimp only
      rw [if_neg (by rw [hpb]; simp; omega)]
      have := S3 i o x hi
      simp only [envL, if_true, hst, putE] at this ⊢
      exact this
  rw [← hlen] at hD
  refine wp_region_any hm ?_
  have ok' : Ok cx n ⟨s.env, (b, m0) :: H0⟩ a { w with drawn := w.drawn + 1 } := by
    have hIw : ∀ c, imm cx w ((b, m0) :: H0) c → imm cx { w with drawn := w.drawn + 1 } ((b, m0) :: H0) c ∧ ({ w with drawn := w.drawn + 1 } : World).heap[c]? = w.heap[c]? := fun c hc => ⟨hc, rfl⟩
    refine ⟨ok.defers, ok.size, fun i => (ok.reps i).mono hIw, ⟨ok.world.nodup, ok.world.keys, fun x hx => (ok.world.mem x hx).mono hIw rfl, ⟨ok.world.ext.os, ok.world.ext.tape, ok.world.ext.output, ok.world.ext.size, ok.world.ext.blk⟩, ok.world.ro⟩⟩
  have henv0 : envL (fun j => (Array.replicate l.toArray.size false).getD j false) lx 0 s.env = s.env := envL_none _ _ _ fun j _ => getD_rep_false _ _
  have inv0 : DInvS cx n l.toArray lx s.env H0 pb (Array.replicate l.toArray.size false) a { w with drawn := w.drawn + 1 } := by
    refine ⟨by simp, ⟨by simp, fun j oj _ hl => ?_, fun t _ ht => ?_, ?_⟩⟩
    · rw [getD_rep_false] at hl; cases hl
    · have : t < l.length := by simpa using ht
      simp [this]
    · rw [henv0, getD_rep_false, hpb]; exact ok'
  have his : pb.is = is := by rw [hpb]
  have hbb : pb.b = b := by rw [hpb]
  have hfin : ∀ listed a w, DInvS cx n l.toArray lx s.env H0 pb listed a w → (∀ j, j < lx.length → listed.getD j false = true) →
      wpAny P .any l.toArray (fun e a' w' => ∃ s', Q e s' ∧ Ok cx n s' a' w') (l.drop k).length listed a w := by
    intro listed a w inv hall
    have hinv := inv.inv
    rw [his, hall is (by omega), if_pos rfl] at hinv
    have henv : ∀ t, look (envL (fun j => listed.getD j false) lx 0 s.env) t = look (envL (fun _ => true) A3 0 (envL (fun _ => true) A2 0 s.env)) t := by
      intro t
      have e1 : envL (fun j => listed.getD j false) lx 0 s.env = envL (fun _ => true) lx 0 s.env := envL_ext lx 0 _ fun j _ hj => hall j (by omega)
      rw [e1, henvA]
    have hok : Ok cx n ⟨envL (fun _ => true) A3 0 (envL (fun _ => true) A2 0 s.env), (b, pb.m1) :: H0⟩ a w := by
      refine ⟨hinv.ok.defers, hinv.ok.size, fun t => ?_, ?_⟩
      · have := hinv.ok.reps t
        simp only [henv t, hbb] at this
        exact this
      · have := hinv.ok.world
        simp only [hbb] at this
        exact this
    have hK := K3
    rw [hdrop] at hK
    have hm1 : pb.m1 = (stC P T m0 off (og (envL (fun _ => true) A2 0 s.env) y).2).2 := by rw [hpb]
    rw [hm1] at hok
    have hwl := rvc_sound (cx := cx) _ _ hK (fun e a' w' => ∃ s', Q e s' ∧ Ok cx n s' a' w') (fun s' a' w' hk ok' => ⟨s', hk, ok'⟩) a w hok
    refine tail_any (k0 := k) (by rw [hlen] at hD; exact hD) (l.drop k) k listed a w (Nat.le_refl _) (fun j => by simp [List.getElem?_drop]) (by simp; omega) inv.lsize (fun j hj => ?_) hwl
    by_cases hjk : j < k
    · rw [hall j (by omega)]; simp [hjk]
    · have := hinv.tail j (by omega) hj
      rw [getD_bool (by rw [inv.lsize]; exact hj)] at this
      rw [this]; simp; omega
  have hcount : ((List.range lx.length).filter fun i => !(Array.replicate l.toArray.size false).getD i false).length = k := by
    rw [hlen]
    have : ((List.range k).filter fun i => !(Array.replicate l.toArray.size false).getD i false) = List.range k := by
      rw [List.filter_eq_self]
      intro j _
      rw [getD_rep_false]
      rfl
    rw [this]; simp
  have := head_any' hD (fun _ _ _ inv => inv.inv.closed) (fun _ _ _ inv => inv.lsize) (fun listed a w i X inv hi hik hX => dinvS_step hD hlx hSP (by rw [hbb]; exact hfr) inv hi hik hX) hfin k _ a _ hcount inv0
  have hN : k + (l.drop k).length = l.toArray.size := by simp; omega
  rw [hN] at this
  exact this
end
end Go.Proofs.YtfknbndmabogjaaDoor
namespace Go.Proofs.YtfknbndmabogjaaDoor
open Go
set_option linter.unusedSimpArgs false
set_option linter.unusedVariables false
section
variable {P : Program} {f : FuncId} {args : List AV} {H F F0 R : Hp} {post : AV → Hp → Prop}
theorem DCt.upd {b : Nat} {m : MB} {x : AV} (hg : hget H b = some m) (h : ACt P f args [(b, m)] (fun r F' => r = x ∧ F' = [(b, m)])) : DCt P f args H x :=
  ⟨[(b, m)], hdel H b, _, hget_perm hg, h, fun r F' hr _ => by obtain ⟨e1, e2⟩ := hr; subst e1 e2; exact ⟨rfl, (hget_perm hg).symm⟩⟩
theorem perm1 {b : Nat} {m : MB} (h : hget H b = some m) : H.Perm ([(b, m)] ++ hdel H b) := hget_perm h
theorem perm2 {b1 b2 : Nat} {m1 m2 : MB} (h1 : hget H b1 = some m1) (h2 : hget (hdel H b1) b2 = some m2) : H.Perm ([(b1, m1), (b2, m2)] ++ hdel (hdel H b1) b2) :=
  (hget_perm h1).trans (List.Perm.append_left [(b1, m1)] (hget_perm h2))
theorem DCt.updN {x : AV} (hP : H.Perm (F ++ R)) (h : ACt P f args F (fun r F' => r = x ∧ F' = F)) : DCt P f args H x :=
  ⟨F, R, _, hP, h, fun r F' hr _ => by obtain ⟨e1, e2⟩ := hr; subst e1 e2; exact ⟨rfl, hP.symm⟩⟩
theorem CallV.updN {x : AV} (hP : H.Perm (F ++ R)) (h : ACt P f args F (fun r F' => r = x ∧ F' = F0)) (hp : post x (F0 ++ R)) : CallV P f args H post :=
  ⟨F, R, _, hP, h, fun r F' hr _ => by obtain ⟨e1, e2⟩ := hr; subst e1 e2; exact hp⟩
theorem fresh_perm {b : Nat} {m : MB} (hP : H.Perm (F ++ R)) (hk : F0.map (·.1) = F.map (·.1)) (hn : ((((b, m) :: F0) ++ R).map (·.1)).Nodup) : fresh H b := by
  intro p hp
  have hp' := hP.mem_iff.1 hp
  simp only [List.cons_append, List.map_cons, List.nodup_cons, List.map_append, List.mem_append] at hn
  have hne : p.1 ≠ b := by
    rintro rfl
    rcases List.mem_append.1 hp' with h | h
    · exact hn.1 (.inl (by rw [hk]; exact List.mem_map_of_mem h))
    · exact hn.1 (.inr (List.mem_map_of_mem h))
  exact ⟨hne, Ne.symm hne⟩
theorem CallV.ex {Γ : Type} {x : Γ → AV} {m : Γ → Hp} (hP : H.Perm (F ++ R)) (h : ACt P f args F (fun r F' => ∃ g, r = x g ∧ F' = m g)) (hp : ∀ g, post (x g) (m g ++ R)) : CallV P f args H post :=
  ⟨F, R, _, hP, h, fun r F' hr _ => by obtain ⟨g, e1, e2⟩ := hr; subst e1 e2; exact hp g⟩
theorem ExF.up {K : AV → Prop} {x : AV} (hP : ∃ R, H.Perm (F ++ R)) (h : ACt P f args F (fun r F' => r = x ∧ F' = F)) (hk : K x) : ExF P f args H K := let ⟨_, hP⟩ := hP; ExF.on (DCt.updN hP h) hk
theorem ExG.up {c : Bool} {K : AV → Prop} {x : AV} (hP : ∃ R, H.Perm (F ++ R)) (h : c = true → ACt P f args F (fun r F' => r = x ∧ F' = F)) (hk : K x) : ExG c P f args H K := let ⟨_, hP⟩ := hP; ExG.on (fun hc => DCt.updN hP (h hc)) hk
theorem ExG.upJ {c : Bool} {K : AV → Prop} {x : AV} {q : Prop} (hP : ∃ R, H.Perm (F ++ R)) (h : c = true → ACt P f args F (fun r F' => r = x ∧ F' = F)) (hk : K x) : ExG c P f args H K ∨ q := .inl (ExG.up hP h hk)
theorem ExG.upI {c : Bool} {K : AV → Prop} {x : AV} {q ob : Prop} (hP : ∃ R, H.Perm (F ++ R)) (h : c = true → ACt P f args F (fun r F' => r = x ∧ F' = F)) (ho : ob) (hk : K x) : (ob ∧ ExG c P f args H K) ∨ q := .inl ⟨ho, ExG.up hP h hk⟩
theorem CallV.updM {f : FuncId} {args : List AV} {H F F0 R : Hp} {post : AV → Hp → Prop} {x : AV} (h : ACt P f args F (fun r F' => r = x ∧ F' = F0)) (hP : H.Perm (F ++ R)) (hp : post x (F0 ++ R)) : CallV P f args H post := CallV.updN hP h hp
end
end Go.Proofs.YtfknbndmabogjaaDoor
namespace Go.Proofs.YtfknbndmabogjaaDoor
open Go
set_option linter.unusedSimpArgs false
set_option linter.unusedVariables false
section
variable {P : Program} {cx : Cx} {n : Nat} {ops : Array Oper}
def ECt (P : Program) (f : FuncId) (args : List AV) (E : Hp) (x : AV) (E' : Hp) : Prop :=
  ∃ F R F0, E.Perm (F ++ R) ∧ E' = F0 ++ R ∧ F0.map (·.1) = F.map (·.1) ∧ ACt P f args F (fun r F' => r = x ∧ F' = F0)
def calleeV (env : List (Nat × AV)) : Op → Option (Prop × FuncId × List AV)
  | .call c => match c.callee with
    | .value (.func f) => some ((ogs env c.args.toList).1, f, (ogs env c.args.toList).2)
    | _ => none
  | _ => none
def ExW (P : Program) (f : FuncId) (args : List AV) (E : Hp) (K : AV → Hp → Prop) (d : Hd K := .mk) : Prop := ∃ x E', ECt P f args E x E' ∧ K x E'
theorem ExW.mk {f : FuncId} {args : List AV} {E F R F0 : Hp} {K : AV → Hp → Prop} {x : AV} (hP : E.Perm (F ++ R)) (h : ACt P f args F (fun r F' => r = x ∧ F' = F0)) (hk : F0.map (·.1) = F.map (·.1)) (hK : K x (F0 ++ R)) : ExW P f args E K :=
  ⟨x, F0 ++ R, ⟨F, R, F0, hP, rfl, hk, h⟩, hK⟩
def xst (P : Program) (ops : Array Oper) (H : Hp) (o : Oper) (env : List (Nat × AV)) (K : AV → Prop) : Prop :=
  match o.guard with
  | none => match pev P H env o.op with
    | some r => r.1 ∧ K r.2
    | none => match calleeOf P env o.op with
      | some q => q.1 ∧ ExF P q.2.1 q.2.2 H fun x => K x
      | none => False
  | some (j, want) => match gdOf env ops j want with
    | some c => match pev P H env o.op with
      | some r => (c = true → r.1) ∧ K (.gd c r.2)
      | none => match calleeOf P env o.op with
        | some q => (c = true → q.1) ∧ ExG c P q.2.1 q.2.2 H fun x => K (.gd c x)
        | none => False
    | none => False
theorem xst_stdy {o : Oper} {env : List (Nat × AV)} {H : Hp} {K : AV → Prop} (hd : okd n o.dst) (h : xst P ops H o env K) : ∃ x, Stdy P cx n ops o env H x ∧ StdyE P cx n ops o env H x ∧ K x := by
  unfold xst at h
  split at h
  · rename_i hg
    split at h
    · rename_i r hr
      exact ⟨r.2, stdy_pev hd hg hr h.1, fun E hE => stdy_pev hd hg (pev_app hE hr h.1) h.1, h.2⟩
    · split at h
      · rename_i q hq
        obtain ⟨hob, x, h1, h2⟩ := h
        exact ⟨x, stdy_call hd hg (dcall_of (s := ⟨env, H⟩) hq hob h1), fun E hE => stdy_call hd hg (dcall_app (dcall_of (s := ⟨env, H⟩) hq hob h1)), h2⟩
      · exact h.elim
  · rename_i j want hg
    split at h
    · rename_i c hc
      split at h
      · rename_i r hr
        refine ⟨_, stdy_pevG hd hg hc hr h.1, fun E hE => ?_, h.2⟩
        by_cases hct : c = true
        · exact stdy_pevG hd hg hc (pev_app hE hr (h.1 hct)) h.1
        · refine ⟨hd, fun a w X R h1 h2 h3 h4 h5 => ?_⟩
          have ok := ok_renv h1 h2 h3 h4
          rw [wanted_of_gd ok hg (by rw [gdOf_renv hg]; exact hc)]
          rw [if_neg hct]
          have hcf : c = false := by cases c <;> simp_all
          subst hcf
          exact h5 undef w (.gdf _) h3 fun c hc => ⟨hc, rfl⟩
      · split at h
        · rename_i q hq
          obtain ⟨hob, x, h1, h2⟩ := h
          exact ⟨_, stdy_callG hd hg hc fun hct => dcall_of (s := ⟨env, H⟩) hq (hob hct) (h1 hct), fun E hE => stdy_callG hd hg hc fun hct => dcall_app (dcall_of (s := ⟨env, H⟩) hq (hob hct) (h1 hct)), h2⟩
        · exact h.elim
    · exact h.elim
def xvc (P : Program) (n : Nat) (ops : Array Oper) (ws ls : List Nat) (H0 : Hp) : Nat → List Oper → (List (Nat × AV) → Hp → Prop) → List (Nat × AV) → Hp → Prop
  | _, [], K, env, E => K env E
  | i, o :: rest, K, env, E => okd n o.dst ∧
    if i ∈ ws then o.guard = none ∧ match o.op with
      | .store T ad y => match (og env ad).2 with
        | .lit (.pointer (some ⟨b, off, none⟩)) => match hget E b with
          | some m => (og env ad).1 ∧ (og env y).1 ∧ (stC P T m off (og env y).2).1 ∧ xvc P n ops ws ls H0 (i + 1) rest K (putE env o.dst (.lit undef)) (hset E b (stC P T m off (og env y).2).2)
          | none => False
        | _ => False
      | _ => match calleeV env o.op with
        | some q => q.1 ∧ ExW P q.2.1 q.2.2 E fun x E' => xvc P n ops ws ls H0 (i + 1) rest K (putE env o.dst x) E'
        | none => False
    else xst P ops (if i ∈ ls then E ++ H0 else H0) o env fun x => xvc P n ops ws ls H0 (i + 1) rest K (putE env o.dst x) E
theorem SeqG.cons {C : Nat → Oper → AV → List (Nat × AV) → Prop} {o : Oper} {x : AV} {r : List (Oper × AV)} {env : List (Nat × AV)} (h0 : C 0 o x env) (h : SeqG (fun i => C (i + 1)) r (putE env o.dst x)) : SeqG C ((o, x) :: r) env := by
  have := SeqG.app (C := C) (A := [(o, x)]) (B := r) (env := env) (SeqG.one h0) (by
    simp only [envL, if_true, List.length_cons, List.length_nil]
    have e : (fun i => C (0 + 1 + i)) = fun i => C (i + 1) := by funext i; rw [show 0 + 1 + i = i + 1 by omega]
    rw [e]; exact h)
  exact this
/-! ### The order -/
theorem reach_of_ready {listed : Array Bool} (hc : Closed ops listed) {f i j : Nat} (hi : i ∈ Region.ready .any ops listed) (h : reach ops f i j = true) : listed.getD j false = true :=
  reach_listed hc f i j h fun oi' ho' m hw => ready_waits hi ho' hw
/-! ### Ahead of the parting, the parting, behind it -/
theorem head_to {k : Nat} {R : Exit → Act → World → Prop} {Inv : Array Bool → Act → World → Prop} (hle : k ≤ ops.size) (hback : ∀ (i : Nat) oi, ops[i]? = some oi → ∀ e ∈ oi.after, Region.binds .any e = true → e.on < i)
    (htail : ∀ listed a w, Inv listed a w → ∀ i, k ≤ i → i ∈ Region.ready .any ops listed → ∀ j, j < k → listed.getD j false = true)
    (hcl : ∀ listed a w, Inv listed a w → Closed ops listed) (hsz : ∀ listed a w, Inv listed a w → listed.size = ops.size)
    (hstep : ∀ listed a w i (X : Act → World → Prop), Inv listed a w → i ∈ Region.ready .any ops listed → i < k → (∀ a' w', Inv (listed.setIfInBounds i true) a' w' → X a' w') → wpOp P ops R i X a w) {g : Nat}
    (hfin : ∀ listed a w, Inv listed a w → (∀ j, j < k → listed.getD j false = true) → wpAny P .any ops R g listed a w) :
    ∀ (u : Nat) (listed : Array Bool) (a : Act) (w : World), ((List.range k).filter fun i => !listed.getD i false).length = u → Inv listed a w → wpAny P .any ops R (u + g) listed a w
  | 0, listed, a, w, hu, inv => by
    rw [Nat.zero_add]
    refine hfin listed a w inv fun j hj => ?_
    have := List.eq_nil_of_length_eq_zero hu
    rw [List.filter_eq_nil_iff] at this
    simpa using this j (List.mem_range.2 hj)
  | u + 1, listed, a, w, hu, inv => by
    have hls := hsz _ _ _ inv
    rw [show u + 1 + g = (u + g) + 1 by omega]
    obtain ⟨m, hm1, hm2⟩ : ∃ m, m < k ∧ listed.getD m false = false := by
      cases hf : ((List.range k).filter fun i => !listed.getD i false) with
      | nil => rw [hf] at hu; cases hu
      | cons m r =>
        have : m ∈ (List.range k).filter fun i => !listed.getD i false := by rw [hf]; exact List.mem_cons_self ..
        rw [List.mem_filter] at this
        exact ⟨m, List.mem_range.1 this.1, by simpa using this.2⟩
    obtain ⟨i0, h1, h2, h3⟩ := least (p := fun i => listed.getD i false) hm2
    have hi0 : i0 < ops.size := by omega
    have hready0 : i0 ∈ Region.ready .any ops listed := by
      refine mem_ready.2 ⟨by rw [getD_bool (by rw [hls]; exact hi0)]; exact h2, ops[i0], Array.getElem?_eq_getElem hi0, fun e he hb => h3 _ (hback i0 _ (Array.getElem?_eq_getElem hi0) e he hb)⟩
    refine ⟨fun h => (by rw [h] at hready0; cases hready0), fun i hi => ?_⟩
    obtain ⟨hun, oi, hoi, _⟩ := mem_ready.1 hi
    have hilt : i < ops.size := (Array.getElem?_eq_some_iff.1 hoi).1
    have hik : i < k := by
      rcases Nat.lt_or_ge i k with h | h
      · exact h
      · have := htail listed a w inv i h hi m hm1
        rw [hm2] at this
        cases this
    have hun' : listed.getD i false = false := by rw [← getD_bool (by rw [hls]; exact hilt)]; exact hun
    refine hstep listed a w i _ inv hi hik fun a' w' inv' => head_to hle hback htail hcl hsz hstep hfin u _ a' w' ?_ inv'
    have hcount : ∀ (l : List Nat), l.Nodup → i ∈ l → (l.filter fun j => !listed.getD j false).length = ((l.filter fun j => !(listed.setIfInBounds i true).getD j false).length) + 1 := by
      intro l
      induction l with
      | nil => intro _ h; cases h
      | cons c r ih =>
        intro hn hmem
        simp only [List.nodup_cons] at hn
        by_cases hci : c = i
        · subst hci
          have hset : (listed.setIfInBounds c true).getD c false = true := by
            have : c < listed.size := by rw [hls]; exact hilt
            simp [this]
          have hrest : (r.filter fun j => !listed.getD j false) = r.filter fun j => !(listed.setIfInBounds c true).getD j false := by
            refine List.filter_congr fun j hj => ?_
            have : j ≠ c := fun h => hn.1 (h ▸ hj)
            rw [getD_set_ne false (Ne.symm this)]
          rw [List.filter_cons, List.filter_cons, hun', hset, hrest]
          simp
        · have hmem' : i ∈ r := by rcases List.mem_cons.1 hmem with h | h; exact absurd h.symm hci; exact h
          have := ih hn.2 hmem'
          rw [List.filter_cons, List.filter_cons, getD_set_ne false (Ne.symm hci)]
          split
          · simp only [List.length_cons]; omega
          · exact this
    have := hcount (List.range k) List.nodup_range (List.mem_range.2 hik)
    omega
theorem Stdy.congr {o : Oper} {env env' : List (Nat × AV)} {H : Hp} {x : AV} (h : ∀ t, look env t = look env' t) (hS : Stdy P cx n ops o env H x) : Stdy P cx n ops o env' H x :=
  ⟨hS.1, fun a w X R h1 h2 h3 h4 h5 => hS.2 a w X R h1 h2 h3 (fun t ht => by rw [h t]; exact h4 t ht) h5⟩
def splitH : List Nat → Hp → Option (Hp × Hp)
  | [], H => some ([], H)
  | b :: bs, H => match hget H b with
    | some m => match splitH bs (hdel H b) with
      | some q => some ((b, m) :: q.1, q.2)
      | none => none
    | none => none
theorem splitH_perm : ∀ {bs : List Nat} {H : Hp} {q : Hp × Hp}, splitH bs H = some q → H.Perm (q.1 ++ q.2)
  | [], H, q, h => by cases h; exact .refl _
  | b :: bs, H, q, h => by
    unfold splitH at h
    split at h
    · rename_i m hm
      split at h
      · rename_i q' hq'
        cases h
        exact (hget_perm hm).trans (List.Perm.cons _ (splitH_perm hq'))
      · cases h
    · cases h
def drawCF (P : Program) (n : Nat) (l : List Oper) (K : St → Prop) (c : Nat) (ws ls bs : List Nat) (s : St) : Prop :=
  match splitH bs s.H with
  | some q => xvc P n l.toArray ws ls q.2 0 (l.take c) (fun env E => match l.drop c with
    | o :: r => okd n o.dst ∧ o.guard = none ∧ eff P o (fun s' => dvc P n l.toArray r K s') ⟨env, E ++ q.2⟩
    | [] => False) s.env q.1
  | none => False
end
end Go.Proofs.YtfknbndmabogjaaDoor
namespace Go.Proofs.YtfknbndmabogjaaDoor
open Go
set_option linter.unusedSimpArgs false
set_option linter.unusedVariables false
section
variable {P : Program} {cx : Cx} {n : Nat} {ops : Array Oper} {H : Hp}
theorem tail_to {k0 : Nat} (hback : ∀ (i : Nat) oi, ops[i]? = some oi → ∀ e ∈ oi.after, Region.binds .any e = true → e.on < i) (hr : ∀ i, k0 ≤ i → i < ops.size → ∀ j, k0 ≤ j → j < i → reach ops 12 i j = true) {R : Exit → Act → World → Prop} :
    ∀ (l : List Oper) (k : Nat) (listed : Array Bool) (a : Act) (w : World), k0 ≤ k → (∀ j, l[j]? = ops[k + j]?) → k + l.length = ops.size →
    listed.size = ops.size → (∀ j, j < ops.size → listed.getD j false = decide (j < k)) → wpList P ops R l a w → wpAny P .any ops R l.length listed a w
  | [], k, listed, a, w, hk, hl, hsz, hls, hlist, h => by
    refine ⟨?_, h⟩
    refine List.eq_nil_iff_forall_not_mem.2 fun j hj => ?_
    obtain ⟨h1, o, ho, _⟩ := mem_ready.1 hj
    have hjlt : j < ops.size := (Array.getElem?_eq_some_iff.1 ho).1
    have := hlist j hjlt
    rw [getD_bool (by omega), this] at h1
    simp at h1
    simp at hsz
    omega
  | o :: l, k, listed, a, w, hk, hl, hsz, hls, hlist, h => by
    have h0 : ops[k]? = some o := by simpa using (hl 0).symm
    have hklt : k < ops.size := (Array.getElem?_eq_some_iff.1 h0).1
    have hready : k ∈ Region.ready .any ops listed := by
      refine mem_ready.2 ⟨?_, o, h0, fun e he hb => ?_⟩
      · rw [getD_bool (by omega), hlist k hklt]; simp
      · have := hback k o h0 e he hb
        rw [hlist _ (by omega)]; simp; exact this
    refine ⟨fun h1 => (by rw [h1] at hready; cases hready), fun i hi => ?_⟩
    have hik : i = k := by
      obtain ⟨h1, oi, hoi, _⟩ := mem_ready.1 hi
      have hilt : i < ops.size := (Array.getElem?_eq_some_iff.1 hoi).1
      rw [getD_bool (by omega), hlist i hilt] at h1
      simp at h1
      by_cases h2 : i = k
      · exact h2
      · have hcl : Closed ops listed := fun j oj hj hl c hw => by
          obtain ⟨e, he, hb, rfl⟩ := waits_spec hw
          have h3 := hback j oj hj e he hb
          have h4 : j < ops.size := (Array.getElem?_eq_some_iff.1 hj).1
          rw [hlist j h4] at hl
          simp at hl
          rw [hlist _ (by omega)]
          simp; omega
        have := reach_of_ready hcl hi (hr i (by omega) hilt k hk (by omega))
        rw [hlist k hklt] at this
        simp at this
    subst hik
    have hw : wpOp P ops R i (wpList P ops R l) a w := by unfold wpOp; simp only [h0]; exact h
    refine wpOp_mono (fun a' w' h' => tail_to hback hr l (i + 1) _ a' w' (by omega) (fun j => by have := hl (j + 1); simpa [Nat.add_assoc, Nat.add_comm 1 j] using this) (by simp at hsz; omega) (by simp [hls]) (fun j hj => ?_) h') hw
    by_cases hji : j = i
    · subst hji
      have : j < listed.size := by omega
      simp [this]
    · rw [getD_set_ne false (Ne.symm hji), hlist j hj, Bool.eq_iff_iff]
      simp
      omega
def mkS (P : Program) (env : List (Nat × AV)) : Op → Option (Prop × MB × Nat)
  | .buildSlice T len parts => match apT P T with
    | some (e, sz, _) => match fillA (plN sz len 0) (List.replicate (len * sz) .any) (ogp env parts.toList).2 with
      | some cs => some ((ogp env parts.toList).1 ∧ len * sz ≤ 16777216, rowMB (elk P T) cs (len * sz) e, len)
      | none => none
    | none => none
  | _ => none
def drawMF (P : Program) (n : Nat) (l : List Oper) (K : St → Prop) (ia k : Nat) (s : St) : Prop :=
  match l with
  | ⟨some d, .move (.tmp x), _, _, _, none⟩ :: l1 => d < n ∧ dvc P n l.toArray (l1.take (ia - 1)) (fun s1 => match l1.drop (ia - 1) with
    | ⟨some t, op, _, _, _, none⟩ :: r => match mkS P s1.env op with
      | some q => t < n ∧ q.1 ∧ dvc P n l.toArray (r.take (k - ia - 1)) (fun s3 => newB s3.H q.2.1 fun b H => rvc P n l.toArray (r.drop (k - ia - 1)) K ⟨(t, ms b 0 q.2.2 q.2.2) :: s3.env, H⟩) ⟨(t, .any) :: s1.env, s1.H⟩
      | none => False
    | _ => False) ⟨(d, look s.env x) :: s.env, s.H⟩
  | _ => False
end
end Go.Proofs.YtfknbndmabogjaaDoor
namespace Go.Proofs.YtfknbndmabogjaaDoor
open Go
set_option linter.unusedSimpArgs false
set_option linter.unusedVariables false
section
variable {P : Program} {cx : Cx} {n : Nat} {ops : Array Oper}
def WCt (P : Program) (f : FuncId) (args : List AV) (E H0 : Hp) (post : AV → Hp → Prop) (d : Hd post := .mk) : Prop :=
  ∃ F R p, E.Perm (F ++ R) ∧ ACt P f args F p ∧ ∀ r F', p r F' → (((F' ++ R) ++ H0).map (·.1)).Nodup → post r (F' ++ R)
theorem run_wct {f : FuncId} {args : List AV} {env : List (Nat × AV)} {E H0 : Hp} {post : AV → Hp → Prop} {a : Act} {w : World} {vs : Array Value} (ok : Ok cx n ⟨env, E ++ H0⟩ a w) (h : WCt P f args E H0 post) (hs : vs.size = args.length)
    (hv : ∀ i, i < args.length → Rep w (imm cx w (E ++ H0)) (vs.getD i undef) (args.getD i .any)) :
    CallX P f vs w fun e w' => ∃ v x E', e = .returned v ∧ post x E' ∧ (∀ y ∈ E', fresh H0 y.1) ∧ Rep w' (imm cx w' (E' ++ H0)) v x ∧ OkW cx (E' ++ H0) w' ∧
      ∀ c, imm cx w (E ++ H0) c → imm cx w' (E' ++ H0) c ∧ w'.heap[c]? = w.heap[c]? := by
  obtain ⟨F, R, p, hP0, hct, hpost⟩ := h
  have hP : (E ++ H0).Perm (F ++ (R ++ H0)) := by rw [← List.append_assoc]; exact hP0.append_right H0
  have hw := ok.world.perm hP
  have hIp : ∀ b, imm cx w (E ++ H0) b → imm cx w (F ++ (R ++ H0)) b := fun b hb => (imm_perm hP).1 hb
  have hI : ∀ b, imm cx w (E ++ H0) b → b < w.heap.size ∧ (b ∉ F.map (·.1) ∨ b ∈ roK F) := fun b hb => ⟨imm_lt hw.ext.size hb, imm_out hw (hIp b hb)⟩
  have hT := roK_lt hw
  have hnd := hw.nodup
  rw [List.map_append, List.nodup_append] at hnd
  have := hct ⟨w, imm cx w (E ++ H0), F.map (·.1), roK F, hI, hT⟩ vs rfl rfl ⟨hnd.1, fun x hx => .inl (List.mem_map_of_mem hx), fun x hx => (hw.mem x (List.mem_append_left _ hx)).mono (fun b hb => ⟨.inl ((imm_perm hP).2 hb), rfl⟩) rfl,
    ⟨rfl, rfl, rfl, Nat.le_refl _, fun _ _ _ => rfl⟩, roK_ro hnd.1⟩ hs hv
  refine this.mono ?_
  rintro e w' ⟨v, r, F', he, hp, hw', hr⟩
  obtain ⟨c1, c2, c3⟩ := call_frame hIp hw hw'
  rw [show F' ++ (R ++ H0) = F' ++ R ++ H0 from (List.append_assoc ..).symm] at c1 c2 c3
  exact ⟨v, r, F' ++ R, he, hpost r F' hp c1.nodup, fresh_app c1.nodup, hr.mono fun b hb => ⟨c3 b hb, rfl⟩, c1, fun c hc => c2 c (hIp c hc)⟩
theorem effW_call {o : Oper} {env : List (Nat × AV)} {E H0 : Hp} {post : AV → Hp → Prop} {q : Prop × FuncId × List AV} (hc : calleeV env o.op = some q) (hq : q.1) (h : WCt P q.2.1 q.2.2 E H0 post)
    {a : Act} {w : World} {X : Act → World → Prop} {R : Exit → Act → World → Prop} (h1 : a.defers = []) (h2 : a.tmps.size = n) (h3 : OkW cx (E ++ H0) w)
    (h4 : ∀ t ∈ o.looksAt ops, Rep w (imm cx w (E ++ H0)) (a.tmps.getD t undef) (look env t))
    (h5 : ∀ v x E' w', post x E' → (∀ y ∈ E', fresh H0 y.1) → Rep w' (imm cx w' (E' ++ H0)) v x → OkW cx (E' ++ H0) w' → (∀ c, imm cx w (E ++ H0) c → imm cx w' (E' ++ H0) c ∧ w'.heap[c]? = w.heap[c]?) → X (a.put o.dst v) w') : o.wp P a w X R := by
  have ok := ok_renv h1 h2 h3 h4
  have hre := opd_renv (ops := ops) (o := o) (env := env)
  obtain ⟨dst, op, type, pos, after, guard⟩ := o
  simp only at hc h5 hre ok
  unfold calleeV at hc
  split at hc
  · rename_i cl
    obtain ⟨callee, args, ts⟩ := cl
    simp only at hc
    split at hc
    · rename_i f
      simp only [Option.some.injEq] at hc
      subst hc
      simp only at hq h
      have he : ogs env args.toList = ogs (renv env (Oper.looksAt ops ⟨dst, .call ⟨.value (.func f), args, ts⟩, type, pos, after, guard⟩)) args.toList :=
        ogs_congr fun x hx => hre x (by simp [Op.operands, Call.operands]; exact .inr (by simpa using hx))
      rw [he] at hq h
      have hlen := ogs_length (env := renv env (Oper.looksAt ops ⟨dst, .call ⟨.value (.func f), args, ts⟩, type, pos, after, guard⟩)) args.toList
      have := run_wct (vs := args.map a.eval) ok h (by rw [hlen]; simp) (fun i hi => by
        have := ok.ogs hq i (by rw [hlen] at hi; exact hi)
        simpa [List.getD] using this)
      unfold Oper.wp
      have hrun : (execOp a.eval ⟨dst, .call ⟨.value (.func f), args, ts⟩, type, pos, after, guard⟩).run P w = (callFunc f (args.map a.eval)).run P w := by
        simp only [execOp, resolve, Act.eval, Deferred.ofValue, Sem.run_bind, Sem.run_pure, Result.andThen_ok, invoke, Array.append_empty, Array.empty_append]
        try simp
      refine this.upon hrun ?_
      rintro e w' ⟨v, x, E', rfl, hp, hf, hrep, c1, c2⟩
      exact ⟨_, rfl, h5 v x E' w' hp hf hrep c1 c2⟩
    · cases hc
  · cases hc
def drawWF (P : Program) (n : Nat) (l : List Oper) (K : St → Prop) (c k : Nat) (bs : List Nat) (s : St) : Prop :=
  match splitH bs s.H with
  | some q => dvc P n l.toArray (l.take c) (fun s1 => match l.drop c with
    | ⟨some t, op, _, _, _, none⟩ :: r => t < n ∧ match calleeV s1.env op with
      | some g => g.1 ∧ dvc P n l.toArray (r.take (k - c - 1)) (fun s3 => WCt P g.2.1 g.2.2 q.1 q.2 fun x E' => rvc P n l.toArray (r.drop (k - c - 1)) K ⟨(t, x) :: s3.env, E' ++ q.2⟩) ⟨(t, .any) :: s1.env, s1.H⟩
      | none => False
    | _ => False) ⟨s.env, q.2⟩
  | none => False
theorem WCt.row {f : FuncId} {args : List AV} {E H0 : Hp} {b : Nat} {m : MB} {k : IntKind} {ty : TypeId} {zs : List Int} {post : AV → Hp → Prop} (hg : hget E b = some m) (h : ACt P f args [(b, m)] (Row k ty zs))
    (hp : Nu fun b' => Nu fun cap' => Fr (zs.length ≤ cap' ∧ cap' ≤ maxLen ∧ fresh (hdel E b ++ H0) b') (post (ms b' 0 zs.length cap') ((b', .zs k zs cap' ty) :: hdel E b))) : WCt P f args E H0 post := by
  refine ⟨[(b, m)], hdel E b, _, hget_perm hg, h, ?_⟩
  rintro r F' ⟨b', cap', h1, h2, rfl, rfl⟩ hn
  exact ((hp.out b').out cap').out ⟨h1, h2, fresh_of_nodup hn⟩
theorem WCt.mkrow {f : FuncId} {args : List AV} {E H0 : Hp} {k : IntKind} {ty : TypeId} {zs : List Int} {post : AV → Hp → Prop} (h : ACt P f args [] (Row k ty zs))
    (hp : Nu fun b' => Nu fun cap' => Fr (zs.length ≤ cap' ∧ cap' ≤ maxLen ∧ fresh (E ++ H0) b') (post (ms b' 0 zs.length cap') ((b', .zs k zs cap' ty) :: E))) : WCt P f args E H0 post := by
  refine ⟨[], E, _, by simp, h, ?_⟩
  rintro r F' ⟨b', cap', h1, h2, rfl, rfl⟩ hn
  exact ((hp.out b').out cap').out ⟨h1, h2, fresh_of_nodup hn⟩
theorem ACt.fz {f : FuncId} {args : List AV} {F F0 : Hp} {k : IntKind} {ty : TypeId} {zs : List Int}
    (h : ACt P f args F (fun r F' => ∃ q : {p : Nat × Nat // zs.length ≤ p.2 ∧ p.2 ≤ 9223372036854775807}, r = ms q.1.1 0 zs.length q.1.2 ∧ F' = (q.1.1, .zs k zs q.1.2 ty) :: F0)) :
    ACt P f args F (fun r F' => r = .slz k zs ∧ F' = F0) := by
  intro cx vs h1 h1' h2 h3 h4
  refine (h cx vs h1 h1' h2 h3 h4).mono ?_
  rintro e w' ⟨v, r, F', he, ⟨q, rfl, rfl⟩, hw, hr⟩
  have hv := hr.lit_inv
  have hp : OkW cx (F0 ++ [(q.1.1, .zs k zs q.1.2 ty)]) w' := hw.perm (List.perm_append_comm (l₁ := [(q.1.1, MB.zs k zs q.1.2 ty)]))
  obtain ⟨d1, d2⟩ := hp.drop
  refine ⟨v, _, F0, he, ⟨rfl, rfl⟩, d1, ?_⟩
  rw [hv]
  have hm := hw.mem _ (List.mem_cons_self ..)
  have hlt := hm.lt
  obtain ⟨cur, e1, e2, e3, e4⟩ := hm
  have hn := hw.nodup
  simp only [List.map_cons, List.nodup_cons] at hn
  refine .slz _ _ _ _ q.2.1 (by rw [maxLen_eq]; exact q.2.2) (.inr ⟨q.1.1, 0, rfl, .inr ⟨hw.keys _ (List.mem_cons_self ..), hlt, fun x hx he => hn.1 (List.mem_map.2 ⟨x, hx, he⟩)⟩, fun i hi => ?_⟩)
  rw [Nat.zero_add, cell_of_block e1, e4 i hi]
theorem ACt.fzRow {f : FuncId} {args : List AV} {F : Hp} {k : IntKind} {ty : TypeId} {zs : List Int} (h : ACt P f args F (Row k ty zs)) : ACt P f args F (fun r F' => r = .slz k zs ∧ F' = []) := by
  refine ACt.fz (ty := ty) (h.mono ?_)
  rintro r F' ⟨b, cap, h1, h2, rfl, rfl⟩
  exact ⟨⟨(b, cap), h1, by rw [maxLen_eq] at h2; exact h2⟩, rfl, rfl⟩
end
end Go.Proofs.YtfknbndmabogjaaDoor
