/-
  From what a law's frame hands over to the layer's words.
-/
import Derived.Test.YtbnkmhlnoaebcaaLayM
namespace Go.Proofs.Ytbnkmhlnoaebcaa
open Go
set_option linter.unusedSimpArgs false

/-- To be simplified next: the mark that the walk's driver leaves. -/
structure Sm (p : Prop) : Prop where
  out : p

theorem maxLen_eq : maxLen = 9223372036854775807 := rfl
theorem World.cell?_lt {w : World} {a : Addr} {v : Value} (h : w.cell? a = some v) : a.block < w.heap.size ∧ a.spot = none := by
  unfold World.cell? at h
  split at h
  · rename_i hb
    refine ⟨(Array.getElem?_eq_some_iff.1 hb).1, ?_⟩
    split at h
    · cases h
    · rename_i hs; cases hx : a.spot with
      | none => rfl
      | some _ => simp [hx] at hs
  · cases h

/-- A row of integers that came in is a plain list of numbers. -/
theorem Rep.row {k : IntKind} {w : World} {a : Option Addr} {len cap : Nat} {zs : List Int}
    (h : (a = none ∧ len = 0 ∧ cap = 0 ∧ zs = []) ∨
      ∃ x, a = some x ∧ len ≤ cap ∧ cap ≤ maxLen ∧ zs.length = cap ∧ (∀ i, i < zs.length → w.cell? (x.add i) = some (.int k (zs.getD i 0))) ∧ ∀ n ∈ zs, (Lit.int k n).wf = true) :
    Rep w (fun b => b < w.heap.size) (.slice a len cap) (.slz k (zs.take len)) := by
  rcases h with ⟨rfl, rfl, rfl, rfl⟩ | ⟨⟨blk, off, sp⟩, rfl, hl, hm, hz, hc, _⟩
  · exact Rep.slz none k [] 0 (by simp) (by simp) (.inl rfl)
  · have e : (zs.take len).length = len := by simp; omega
    have : Rep w (fun b => b < w.heap.size) (.slice (some ⟨blk, off, sp⟩) (zs.take len).length cap) (.slz k (zs.take len)) := by
      refine Rep.slz _ k _ cap (by omega) hm ?_
      by_cases h0 : len = 0
      · exact .inl (by rw [e]; exact h0)
      · have h1 := World.cell?_lt (hc 0 (by omega))
        simp only [Addr.add, if_pos] at h1
        obtain ⟨h2, rfl⟩ := h1
        refine .inr ⟨blk, off, rfl, h2, fun i hi => ?_⟩
        rw [e] at hi
        have := hc i (by omega)
        have ea : (⟨blk, off, none⟩ : Addr).add i = ⟨blk, off + i, none⟩ := by
          unfold Addr.add
          split
          · subst i; rfl
          · rfl
        rw [ea] at this
        rw [this]
        simp [List.getD, List.getElem?_take, hi]
    rw [e] at this
    exact this

/-- The bytes of a list, as the program's integers. -/
def ub (bs : List UInt8) : List Int := bs.map fun b => (b.toNat : Int)
theorem ub_len (bs : List UInt8) : (ub bs).length = bs.length := by simp [ub]
theorem ub_getD (bs : List UInt8) (i : Nat) : (ub bs).getD i 0 = ((bs.getD i 0).toNat : Int) := by
  unfold ub
  simp only [List.getD, List.getElem?_map]
  cases bs[i]? <;> rfl
theorem ub_take (bs : List UInt8) (k : Nat) : (ub bs).take k = ub (bs.take k) := by simp [ub]
theorem ub_drop (bs : List UInt8) (k : Nat) : (ub bs).drop k = ub (bs.drop k) := by simp [ub]
theorem ub_append (a b : List UInt8) : ub (a ++ b) = ub a ++ ub b := by simp [ub]
theorem ub_of {zs : List Int} (h : ∀ n ∈ zs, (Lit.int .u8 n).wf = true) : ∃ bs, zs = ub bs := by
  induction zs with
  | nil => exact ⟨[], rfl⟩
  | cons z r ih =>
    obtain ⟨bs, rfl⟩ := ih fun n hn => h n (List.mem_cons_of_mem _ hn)
    have hz := h z (List.mem_cons_self ..)
    simp only [Lit.wf, IntKind.min, IntKind.max, IntKind.bits, IntKind.signed] at hz
    simp at hz
    refine ⟨UInt8.ofNat z.toNat :: bs, ?_⟩
    simp [ub]
    omega
/-- The same, off the frame's word for a row. -/
theorem row_bytes {w : World} {a : Option Addr} {len cap : Nat} {zs : List Int}
    (h : (a = none ∧ len = 0 ∧ cap = 0 ∧ zs = []) ∨
      ∃ x, a = some x ∧ len ≤ cap ∧ cap ≤ maxLen ∧ zs.length = cap ∧ (∀ i, i < zs.length → w.cell? (x.add i) = some (.int .u8 (zs.getD i 0))) ∧ ∀ n ∈ zs, (Lit.int .u8 n).wf = true) :
    ∃ bs, Rep w (fun b => b < w.heap.size) (.slice a len cap) (.slz .u8 (ub bs)) := by
  have h1 := Rep.row h
  have h2 : ∀ n ∈ zs.take len, (Lit.int .u8 n).wf = true := by
    intro n hn
    have := List.mem_of_mem_take hn
    rcases h with ⟨_, _, _, rfl⟩ | ⟨_, _, _, _, _, _, hw⟩
    · cases this
    · exact hw n this
  obtain ⟨bs, e⟩ := ub_of h2
  exact ⟨bs, e ▸ h1⟩
theorem wf_i64 {z : Int} (h : (Lit.int .i64 z).wf = true) : -9223372036854775808 ≤ z ∧ z ≤ 9223372036854775807 := by
  simp only [Lit.wf, IntKind.min, IntKind.max, IntKind.bits, IntKind.signed] at h
  simp at h
  omega
theorem wf_u64 {z : Int} (h : (Lit.int .u64 z).wf = true) : 0 ≤ z ∧ z ≤ 18446744073709551615 := by
  simp only [Lit.wf, IntKind.min, IntKind.max, IntKind.bits, IntKind.signed] at h
  simp at h
  omega
theorem wf_u32 {z : Int} (h : (Lit.int .u32 z).wf = true) : 0 ≤ z ∧ z ≤ 4294967295 := by
  simp only [Lit.wf, IntKind.min, IntKind.max, IntKind.bits, IntKind.signed] at h
  simp at h
  omega
theorem wf_u8 {z : Int} (h : (Lit.int .u8 z).wf = true) : 0 ≤ z ∧ z ≤ 255 := by
  simp only [Lit.wf, IntKind.min, IntKind.max, IntKind.bits, IntKind.signed] at h
  simp at h
  omega
end Go.Proofs.Ytbnkmhlnoaebcaa
