/-
  Steps of a region that draws its order, in short.
  No condition.
-/
import Derived.Test.YtacgmmpdichlmaaN02
import Derived.Deep.RegionHeld3
namespace Go.Proofs.Ytacgmmpdichlmaa
open Go.RowKit

section
variable {P : Program} {md : Region.Mode} {ops : Array Oper} {Q : Exit → Act → World → Prop}
/-- A pure operation, under what is held. -/
theorem tC {S : World → Prop} {fuel : Nat} {listed : Array Bool} {a : Act} {w : World} (i : Nat) {oi : Oper} {v : Value} {a' : Act} (hS : S w) (h : wpAnyH P md ops Q S fuel (listed.setIfInBounds i true) a' w)
    (hi : ops[i]? = some oi := by rfl) (hs : Region.noSelect ops = true := by kernel_rfl) (hf : Region.free md ops listed i = true := by kernel_rfl) (hr : (Region.ready md ops listed).contains i = true := by kernel_rfl)
    (hg : Region.wanted oi (yielded ops a.tmps) = true := by rfl)
    (hy : ∀ w, S w → (execOp a.eval oi).run P w = .ok (.value v) w := by (intro w hSw; (try dsimp only at hSw); (try go_split_ands); go_simp; all_goals with_reducible rfl))
    (ha : a.put oi.dst v = a' := by first | (simp only [Act.put, List.getElem_toArray, List.getElem_cons_zero, List.getElem_cons_succ, List.setIfInBounds_toArray, List.set_cons_zero, List.set_cons_succ] <;> rfl) | rfl)
    (hQ : ∀ c a w, Q (.panic c) (a.put oi.dst v) w → Q (.panic c) a w := by exact fun _ _ _ h => h) : wpAnyH P md ops Q S (fuel + 1) listed a w := by
  subst ha
  exact takeH hi hs hf hr hQ hg hS hy h
/-- An operation that a guard leaves out. -/
theorem tN {S : World → Prop} {fuel : Nat} {listed : Array Bool} {a : Act} {w : World} (i : Nat) {oi : Oper} {a' : Act} (hS : S w) (h : wpAnyH P md ops Q S fuel (listed.setIfInBounds i true) a' w)
    (hi : ops[i]? = some oi := by rfl) (hs : Region.noSelect ops = true := by kernel_rfl) (hf : Region.free md ops listed i = true := by kernel_rfl) (hr : (Region.ready md ops listed).contains i = true := by kernel_rfl)
    (hg : Region.wanted oi (yielded ops a.tmps) = false := by rfl)
    (ha : a.put oi.dst undef = a' := by first | (simp only [Act.put, List.getElem_toArray, List.getElem_cons_zero, List.getElem_cons_succ, List.setIfInBounds_toArray, List.set_cons_zero, List.set_cons_succ] <;> rfl) | rfl)
    (hQ : ∀ c a w, Q (.panic c) (a.put oi.dst undef) w → Q (.panic c) a w := by exact fun _ _ _ h => h) : wpAnyH P md ops Q S (fuel + 1) listed a w := by
  subst ha
  exact wpAnyH_take hi hs hf hr hQ (Or.inr ⟨hg, rfl⟩) hS h
/-- The region's beginning. -/
theorem rgC {a : Act} {id : Nat} {w : World} (S : World → Prop) (hS : S w.drew) (k : ∀ W', W' = w.drew → wpAnyH P .any ops Q S ops.size (Array.replicate ops.size false) a W') (hm : P.follows .mixedOrders = true := by kernel_rfl) : (Code.region id ops true).wp P Q a w :=
  wp_region_held_drew hm hS (fun _ => k _ rfl)
end
theorem heap_st3 {w : World} {g q : Nat} (h : q ≠ g) (x y z : Value) : (((w.setCell ⟨g, 0, none⟩ x).setCell ⟨g, 1, none⟩ y).setCell ⟨g, 2, none⟩ z).heap[q]? = w.heap[q]? := (Below.heap_setCell _ ⟨g, 2, none⟩ z q h).trans ((Below.heap_setCell _ ⟨g, 1, none⟩ y q h).trans (Below.heap_setCell _ ⟨g, 0, none⟩ x q h))
theorem heap_sts {w : World} {g q : Nat} (h : q ≠ g) (i j k : Nat) (x y z : Value) : (((w.setCell ⟨g, i, none⟩ x).setCell ⟨g, j, none⟩ y).setCell ⟨g, k, none⟩ z).heap[q]? = w.heap[q]? := (Below.heap_setCell _ ⟨g, k, none⟩ z q h).trans ((Below.heap_setCell _ ⟨g, j, none⟩ y q h).trans (Below.heap_setCell _ ⟨g, i, none⟩ x q h))
end Go.Proofs.Ytacgmmpdichlmaa
