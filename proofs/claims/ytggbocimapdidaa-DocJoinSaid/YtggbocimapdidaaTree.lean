/-
  Documents: as trees, and how one lies in memory.
  No condition.
-/
import Derived.Test.YtggbocimapdidaaBase
namespace Go.Proofs.Ytggbocimapdidaa
open Go.RowKit

mutual
/-- A document. -/
inductive Dc where
  | mk (kind : Int) (text : ByteArray) (n : Int) (kids : Dcs)
/-- Some documents, one behind the other. -/
inductive Dcs where
  | nil
  | cons (d : Dc) (r : Dcs)
end

def Dcs.len : Dcs → Nat
  | .nil => 0
  | .cons _ r => r.len + 1
def Dcs.app : Dcs → Dcs → Dcs
  | .nil, b => b
  | .cons d r, b => .cons d (r.app b)
def Dcs.toL : Dcs → List Dc
  | .nil => []
  | .cons d r => d :: r.toL
def Dcs.ofL : List Dc → Dcs
  | [] => .nil
  | d :: r => .cons d (Dcs.ofL r)
theorem Dcs.toL_ofL : ∀ l : List Dc, (Dcs.ofL l).toL = l
  | [] => rfl
  | d :: r => by rw [Dcs.ofL, Dcs.toL, Dcs.toL_ofL r]
theorem Dcs.ofL_toL : ∀ l : Dcs, Dcs.ofL l.toL = l
  | .nil => rfl
  | .cons d r => by rw [Dcs.toL, Dcs.ofL, Dcs.ofL_toL r]
theorem Dcs.len_toL : ∀ l : Dcs, l.toL.length = l.len
  | .nil => rfl
  | .cons d r => by rw [Dcs.toL, List.length_cons, Dcs.len_toL r, Dcs.len]

mutual
/-- The value v reads as the document d; the Kids lie in blocks of F. -/
def IsDc (w : World) (F : Nat → Prop) : Dc → Value → Prop
  | .mk k s n ks, v => ∃ (a : Option Addr) (cap : Nat), v = .agg #[.int .i64 k, .string s, .int .i64 n, .slice a ks.len cap] ∧ (-9223372036854775808 ≤ k ∧ k ≤ 9223372036854775807) ∧ (-9223372036854775808 ≤ n ∧ n ≤ 9223372036854775807) ∧ s.size ≤ maxLen ∧ ks.len ≤ maxLen ∧
      (ks.len ≠ 0 → ∃ b o, a = some ⟨b, o, none⟩ ∧ F b ∧ IsDcs w F b o ks)
/-- From cell o of block b on lie the documents ks. -/
def IsDcs (w : World) (F : Nat → Prop) (b : Nat) : Nat → Dcs → Prop
  | _, .nil => True
  | o, .cons d r => (∃ c0 c1 c2 c3, w.cell? ⟨b, o, none⟩ = some c0 ∧ w.cell? ⟨b, o + 1, none⟩ = some c1 ∧ w.cell? ⟨b, o + 2, none⟩ = some c2 ∧ w.cell? ⟨b, o + 3, none⟩ = some c3 ∧ IsDc w F d (.agg #[c0, c1, c2, c3])) ∧ IsDcs w F b (o + 4) r
end

mutual
theorem IsDc.keep {w w' : World} {F F' : Nat → Prop} (hF : ∀ b, F b → F' b ∧ w'.heap[b]? = w.heap[b]?) : ∀ (d : Dc) (v : Value), IsDc w F d v → IsDc w' F' d v
  | .mk k s n ks, v, h => by
    rw [IsDc] at h ⊢
    obtain ⟨a, cap, h0, h1, h2, h3, h4, h5⟩ := h
    refine ⟨a, cap, h0, h1, h2, h3, h4, fun hne => ?_⟩
    obtain ⟨b, o, ha, hb, hk⟩ := h5 hne
    exact ⟨b, o, ha, (hF b hb).1, IsDcs.keep hF ks b o hb hk⟩
theorem IsDcs.keep {w w' : World} {F F' : Nat → Prop} (hF : ∀ b, F b → F' b ∧ w'.heap[b]? = w.heap[b]?) : ∀ (ks : Dcs) (b o : Nat), F b → IsDcs w F b o ks → IsDcs w' F' b o ks
  | .nil, b, o, _, _ => by rw [IsDcs]; trivial
  | .cons d r, b, o, hb, h => by
    rw [IsDcs] at h ⊢
    obtain ⟨⟨c0, c1, c2, c3, h0, h1, h2, h3, h4⟩, h5⟩ := h
    have hc : ∀ i, w'.cell? ⟨b, i, none⟩ = w.cell? ⟨b, i, none⟩ := fun i => World.cell?_of_block (w := w) (hF b hb).2
    exact ⟨⟨c0, c1, c2, c3, by rw [hc, h0], by rw [hc, h1], by rw [hc, h2], by rw [hc, h3], IsDc.keep hF d _ h4⟩, IsDcs.keep hF r b (o + 4) hb h5⟩
end

theorem IsDcs.get {w : World} {F : Nat → Prop} {b : Nat} : ∀ {ks : Dcs} {o k : Nat} {d : Dc}, IsDcs w F b o ks → ks.toL[k]? = some d →
    ∃ c0 c1 c2 c3, w.cell? ⟨b, o + k * 4, none⟩ = some c0 ∧ w.cell? ⟨b, o + k * 4 + 1, none⟩ = some c1 ∧ w.cell? ⟨b, o + k * 4 + 2, none⟩ = some c2 ∧ w.cell? ⟨b, o + k * 4 + 3, none⟩ = some c3 ∧ IsDc w F d (.agg #[c0, c1, c2, c3])
  | .nil, o, k, d, _, h => by simp [Dcs.toL] at h
  | .cons x r, o, 0, d, h, hk => by
    rw [IsDcs] at h
    obtain rfl : x = d := by simpa [Dcs.toL] using hk
    simpa using h.1
  | .cons x r, o, k + 1, d, h, hk => by
    rw [IsDcs] at h
    have := IsDcs.get h.2 (k := k) (d := d) (by simpa [Dcs.toL] using hk)
    rw [show o + (k + 1) * 4 = o + 4 + k * 4 by omega]
    exact this
end Go.Proofs.Ytggbocimapdidaa
