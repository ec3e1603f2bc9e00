/-
  The walks and the laws that the statement leans on, part 11.
-/
import Derived.Test.YtdkkfgcdnojmaaaDoorS10
namespace Go.Proofs.YtdkkfgcdnojmaaaDoor
open Go
set_option linter.unusedSimpArgs false
set_option linter.unusedVariables false
section
variable {P : Program} {cx : Cx} {n : Nat} {ops : Array Oper}
def WCt (P : Program) (f : FuncId) (args : List AV) (E H0 : Hp) (post : AV → Hp → Prop) (d : Hd post := .mk) : Prop :=
  ∃ F R p, E.Perm (F ++ R) ∧ ACt P f args F p ∧ ∀ r F', p r F' → (((F' ++ R) ++ H0).map (·.1)).Nodup → post r (F' ++ R)
def drawWF (P : Program) (n : Nat) (l : List Oper) (K : St → Prop) (c k : Nat) (bs : List Nat) (s : St) : Prop :=
  match splitH bs s.H with
  | some q => dvc P n l.toArray (l.take c) (fun s1 => match l.drop c with
    | ⟨some t, op, _, _, _, none⟩ :: r => t < n ∧ match calleeV s1.env op with
      | some g => g.1 ∧ dvc P n l.toArray (r.take (k - c - 1)) (fun s3 => WCt P g.2.1 g.2.2 q.1 q.2 fun x E' => rvc P n l.toArray (r.drop (k - c - 1)) K ⟨(t, x) :: s3.env, E' ++ q.2⟩) ⟨(t, .any) :: s1.env, s1.H⟩
      | none => False
    | _ => False) ⟨s.env, q.2⟩
  | none => False
theorem WCt.row {f : FuncId} {args : List AV} {E H0 : Hp} {b : Nat} {m : MB} {k : IntKind} {ty : TypeId} {zs : List Int} {post : AV → Hp → Prop} (hg : hget E b = some m) (h : ACt P f args [(b, m)] (Row k ty zs))
    (hp : Nu fun b' => Nu fun cap' => Fr (zs.length ≤ cap' ∧ cap' ≤ maxLen ∧ fresh (hdel E b ++ H0) b') (post (ms b' 0 zs.length cap') ((b', .zs k zs cap' ty) :: hdel E b))) : WCt P f args E H0 post := by
  refine ⟨[(b, m)], hdel E b, _, hget_perm hg, h, ?_⟩
  rintro r F' ⟨b', cap', h1, h2, rfl, rfl⟩ hn
  exact ((hp.out b').out cap').out ⟨h1, h2, fresh_of_nodup hn⟩
theorem ACt.fz {f : FuncId} {args : List AV} {F F0 : Hp} {k : IntKind} {ty : TypeId} {zs : List Int}
    (h : ACt P f args F (fun r F' => ∃ q : {p : Nat × Nat // zs.length ≤ p.2 ∧ p.2 ≤ 9223372036854775807}, r = ms q.1.1 0 zs.length q.1.2 ∧ F' = (q.1.1, .zs k zs q.1.2 ty) :: F0)) :
    ACt P f args F (fun r F' => r = .slz k zs ∧ F' = F0) := by
  intro cx vs h1 h1' h2 h3 h4
  refine (h cx vs h1 h1' h2 h3 h4).mono ?_
  rintro e w' ⟨v, r, F', he, ⟨q, rfl, rfl⟩, hw, hr⟩
  have hv := hr.lit_inv
  have hp : OkW cx (F0 ++ [(q.1.1, .zs k zs q.1.2 ty)]) w' := hw.perm (List.perm_append_comm (l₁ := [(q.1.1, MB.zs k zs q.1.2 ty)]))
  obtain ⟨d1, d2⟩ := hp.drop
  refine ⟨v, _, F0, he, ⟨rfl, rfl⟩, d1, ?_⟩
  rw [hv]
  have hm := hw.mem _ (List.mem_cons_self ..)
  have hlt := hm.lt
  obtain ⟨cur, e1, e2, e3, e4⟩ := hm
  have hn := hw.nodup
  simp only [List.map_cons, List.nodup_cons] at hn
  refine .slz _ _ _ _ q.2.1 (by rw [maxLen_eq]; exact q.2.2) (.inr ⟨q.1.1, 0, rfl, .inr ⟨hw.keys _ (List.mem_cons_self ..), hlt, fun x hx he => hn.1 (List.mem_map.2 ⟨x, hx, he⟩)⟩, fun i hi => ?_⟩)
  rw [Nat.zero_add, cell_of_block e1, e4 i hi]
theorem ACt.fzRow {f : FuncId} {args : List AV} {F : Hp} {k : IntKind} {ty : TypeId} {zs : List Int} (h : ACt P f args F (Row k ty zs)) : ACt P f args F (fun r F' => r = .slz k zs ∧ F' = []) := by
  refine ACt.fz (ty := ty) (h.mono ?_)
  rintro r F' ⟨b, cap, h1, h2, rfl, rfl⟩
  exact ⟨⟨(b, cap), h1, by rw [maxLen_eq] at h2; exact h2⟩, rfl, rfl⟩
end
end Go.Proofs.YtdkkfgcdnojmaaaDoor
