/-
  Nodes whose rows lie apart from each other: what is laid at a place of one turns nothing else. No condition.
-/
import Derived.Test.YtacgmmpdichlmaaGreatM03
namespace Go.Proofs.YtacgmmpdichlmaaGreat
open Go.RowKit

mutual
/-- The value reads as the node; its rows lie in blocks from lo on, below hi, each in its own. -/
def IsT (w : World) : Nat → Nat → Nd → Value → Prop
  | lo, hi, .mk k s ks, v => ∃ (a : Option Addr) (cap : Nat), v = .agg #[.int .i64 k, .string s, .slice a ks.len cap] ∧ (-9223372036854775808 ≤ k ∧ k ≤ 9223372036854775807) ∧ s.size ≤ maxLen ∧ ks.len ≤ maxLen ∧
      (ks.len ≠ 0 → ∃ b cs, a = some ⟨b, 0, none⟩ ∧ lo ≤ b ∧ b < hi ∧ Blk w b 24 cs ∧ IsTs w b lo hi 0 ks)
def IsTs (w : World) (b : Nat) : Nat → Nat → Nat → Nds → Prop
  | _, _, _, .nil => True
  | lo, hi, o, .cons d r => ∃ l m, lo ≤ l ∧ l ≤ m ∧ m ≤ hi ∧ (b < l ∨ m ≤ b) ∧ (∃ c0 c1 c2, w.cell? ⟨b, o, none⟩ = some c0 ∧ w.cell? ⟨b, o + 1, none⟩ = some c1 ∧ w.cell? ⟨b, o + 2, none⟩ = some c2 ∧ IsT w l m d (.agg #[c0, c1, c2])) ∧ IsTs w b m hi (o + 3) r
end
mutual
theorem IsT.nd {w w' : World} {F : Nat → Prop} : ∀ (d : Nd) (lo hi : Nat) (v : Value), (∀ k, lo ≤ k → k < hi → w'.heap[k]? = w.heap[k]? ∧ F k) → IsT w lo hi d v → IsNd w' F d v
  | .mk k s ks, lo, hi, v, hF, h => by
    rw [IsT] at h
    rw [IsNd]
    obtain ⟨a, cap, h0, h1, h3, h4, h5⟩ := h
    refine ⟨a, cap, h0, h1, h3, h4, fun hne => ?_⟩
    obtain ⟨b, cs, ha, hb1, hb2, hb, hk⟩ := h5 hne
    exact ⟨b, 0, ha, (hF b hb1 hb2).2, IsTs.nds ks lo hi 0 b (fun k h1 h2 _ => hF k h1 h2) (fun i _ => World.cell?_of_block (w := w) (a := ⟨b, i, none⟩) (hF b hb1 hb2).1) hk⟩
theorem IsTs.nds {w w' : World} {F : Nat → Prop} : ∀ (ks : Nds) (lo hi o b : Nat), (∀ k, lo ≤ k → k < hi → k ≠ b → w'.heap[k]? = w.heap[k]? ∧ F k) → (∀ i, o ≤ i → w'.cell? ⟨b, i, none⟩ = w.cell? ⟨b, i, none⟩) → IsTs w b lo hi o ks → IsNds w' F b o ks
  | .nil, lo, hi, o, b, _, _, _ => by rw [IsNds]; trivial
  | .cons d r, lo, hi, o, b, hF, hc, h => by
    rw [IsTs] at h
    rw [IsNds]
    obtain ⟨l, m, hl, hlm, hm, hb, ⟨c0, c1, c2, g0, g1, g2, hd⟩, hr⟩ := h
    exact ⟨⟨c0, c1, c2, by rw [hc _ (Nat.le_refl _), g0], by rw [hc _ (by omega), g1], by rw [hc _ (by omega), g2], IsT.nd d l m _ (fun k h1 h2 => hF k (by omega) (by omega) (by omega)) hd⟩,
      IsTs.nds r m hi (o + 3) b (fun k h1 h2 h3 => hF k (by omega) h2 h3) (fun i hi => hc i (by omega)) hr⟩
end
mutual
theorem IsT.keep {w w' : World} : ∀ (d : Nd) (lo hi lo' hi' : Nat) (v : Value), lo' ≤ lo → hi ≤ hi' → (∀ k, lo ≤ k → k < hi → w'.heap[k]? = w.heap[k]?) → IsT w lo hi d v → IsT w' lo' hi' d v
  | .mk k s ks, lo, hi, lo', hi', v, hl, hh, hF, h => by
    rw [IsT] at h ⊢
    obtain ⟨a, cap, h0, h1, h3, h4, h5⟩ := h
    refine ⟨a, cap, h0, h1, h3, h4, fun hne => ?_⟩
    obtain ⟨b, cs, ha, hb1, hb2, hb, hk⟩ := h5 hne
    exact ⟨b, cs, ha, by omega, by omega, (hF b hb1 hb2).trans hb, IsTs.keep ks lo hi lo' hi' 0 b hl hh (fun k h1 h2 _ => hF k h1 h2) (fun i => World.cell?_of_block (w := w) (a := ⟨b, i, none⟩) (hF b hb1 hb2)) hk⟩
theorem IsTs.keep {w w' : World} : ∀ (ks : Nds) (lo hi lo' hi' o b : Nat), lo' ≤ lo → hi ≤ hi' → (∀ k, lo ≤ k → k < hi → k ≠ b → w'.heap[k]? = w.heap[k]?) → (∀ i, w'.cell? ⟨b, i, none⟩ = w.cell? ⟨b, i, none⟩) → IsTs w b lo hi o ks → IsTs w' b lo' hi' o ks
  | .nil, lo, hi, lo', hi', o, b, _, _, _, _, _ => by rw [IsTs]; trivial
  | .cons d r, lo, hi, lo', hi', o, b, hl', hh', hF, hc, h => by
    rw [IsTs] at h ⊢
    obtain ⟨l, m, hl, hlm, hm, hb, ⟨c0, c1, c2, g0, g1, g2, hd⟩, hr⟩ := h
    exact ⟨l, m, by omega, hlm, by omega, hb, ⟨c0, c1, c2, by rw [hc, g0], by rw [hc, g1], by rw [hc, g2], IsT.keep d l m l m _ (Nat.le_refl _) (Nat.le_refl _) (fun k h1 h2 => hF k (by omega) (by omega) (by omega)) hd⟩,
      IsTs.keep r m hi m hi' (o + 3) b (Nat.le_refl _) hh' (fun k h1 h2 h3 => hF k (by omega) h2 h3) hc hr⟩
end
/-- A Kid's place: the Kid, and what the Kids are where something else is laid there. -/
theorem IsTs.put {w : World} {b : Nat} {x : Nd} : ∀ {ks : Nds} {lo hi o j : Nat}, IsTs w b lo hi o ks → ks.toL[j]? = some x →
    ∃ l m c0 c1 c2, lo ≤ l ∧ l ≤ m ∧ m ≤ hi ∧ (b < l ∨ m ≤ b) ∧ w.cell? ⟨b, o + j * 3, none⟩ = some c0 ∧ w.cell? ⟨b, o + j * 3 + 1, none⟩ = some c1 ∧ w.cell? ⟨b, o + j * 3 + 2, none⟩ = some c2 ∧ IsT w l m x (.agg #[c0, c1, c2]) ∧
      ∀ (w' : World) (F : Nat → Prop) (z : Nd) (u0 u1 u2 : Value), (∀ k, lo ≤ k → k < hi → k ≠ b → (k < l ∨ m ≤ k) → w'.heap[k]? = w.heap[k]? ∧ F k) → (∀ i, i < o + j * 3 ∨ o + j * 3 + 3 ≤ i → w'.cell? ⟨b, i, none⟩ = w.cell? ⟨b, i, none⟩) →
        w'.cell? ⟨b, o + j * 3, none⟩ = some u0 → w'.cell? ⟨b, o + j * 3 + 1, none⟩ = some u1 → w'.cell? ⟨b, o + j * 3 + 2, none⟩ = some u2 → IsNd w' F z (.agg #[u0, u1, u2]) → IsNds w' F b o (Nds.ofL (ks.toL.set j z))
  | .nil, lo, hi, o, j, _, h => by simp [Nds.toL] at h
  | .cons d r, lo, hi, o, 0, h, hx => by
    rw [IsTs] at h
    obtain rfl : d = x := by simpa [Nds.toL] using hx
    obtain ⟨l, m, hl, hlm, hm, hb, ⟨c0, c1, c2, g0, g1, g2, hd⟩, hr⟩ := h
    refine ⟨l, m, c0, c1, c2, hl, hlm, hm, hb, by simpa using g0, by simpa using g1, by simpa using g2, hd, fun w' F z u0 u1 u2 hF hc e0 e1 e2 hz => ?_⟩
    rw [Nds.toL, List.set_cons_zero, Nds.ofL, Nds.ofL_toL, IsNds]
    simp only [Nat.zero_mul, Nat.add_zero] at hc e0 e1 e2
    exact ⟨⟨u0, u1, u2, e0, e1, e2, hz⟩, IsTs.nds r m hi (o + 3) b (fun k h1 h2 h3 => hF k (by omega) h2 h3 (Or.inr h1)) (fun i hi => hc i (Or.inr hi)) hr⟩
  | .cons d r, lo, hi, o, j + 1, h, hx => by
    rw [IsTs] at h
    obtain ⟨l0, m0, hl0, hlm0, hm0, hb0, ⟨c0, c1, c2, g0, g1, g2, hd⟩, hr⟩ := h
    obtain ⟨l, m, e0, e1, e2, hl, hlm, hm, hb, f0, f1, f2, hk, hput⟩ := IsTs.put hr (j := j) (x := x) (by simpa [Nds.toL] using hx)
    have ho : o + 3 + j * 3 = o + (j + 1) * 3 := by omega
    rw [ho] at f0 f1 f2 hput
    refine ⟨l, m, e0, e1, e2, by omega, hlm, hm, hb, f0, f1, f2, hk, fun w' F z u0 u1 u2 hF hc e0 e1 e2 hz => ?_⟩
    rw [Nds.toL, List.set_cons_succ, Nds.ofL, IsNds]
    exact ⟨⟨c0, c1, c2, by rw [hc _ (by omega), g0], by rw [hc _ (by omega), g1], by rw [hc _ (by omega), g2], IsT.nd d l0 m0 _ (fun k h1 h2 => hF k (by omega) (by omega) (by omega) (by omega)) hd⟩,
      hput w' F z u0 u1 u2 (fun k h1 h2 h3 h4 => hF k (by omega) h2 h3 h4) hc e0 e1 e2 hz⟩

/-- Cells that read as nodes, whose rows lie from lo on, below hi, one behind the other, outside P. -/
def RowT (w : World) (P : Nat → Prop) : Nat → Nat → List Value → List Nd → Prop
  | lo, hi, [], [] => lo ≤ hi
  | lo, hi, c0 :: c1 :: c2 :: xs, d :: ds => ∃ l m, lo ≤ l ∧ l ≤ m ∧ (∀ k, l ≤ k → k < m → ¬ P k) ∧ IsT w l m d (.agg #[c0, c1, c2]) ∧ RowT w P m hi xs ds
  | _, _, _, _ => False
theorem RowT.out {w : World} {P : Nat → Prop} {lo hi : Nat} {xs : List Value} {d : Nd} {ds : List Nd} (h : RowT w P lo hi xs (d :: ds)) : ∃ c0 c1 c2 ys l m, xs = c0 :: c1 :: c2 :: ys ∧ lo ≤ l ∧ l ≤ m ∧ (∀ k, l ≤ k → k < m → ¬ P k) ∧ IsT w l m d (.agg #[c0, c1, c2]) ∧ RowT w P m hi ys ds := by
  match xs, h with
  | [], h => simp [RowT] at h
  | [_], h => simp [RowT] at h
  | [_, _], h => simp [RowT] at h
  | c0 :: c1 :: c2 :: ys, h =>
    rw [RowT] at h
    obtain ⟨l, m, h1, h2, h3, h4, h5⟩ := h
    exact ⟨c0, c1, c2, ys, l, m, rfl, h1, h2, h3, h4, h5⟩
theorem RowT.out_nil {w : World} {P : Nat → Prop} {lo hi : Nat} {xs : List Value} (h : RowT w P lo hi xs []) : xs = [] ∧ lo ≤ hi := by
  match xs, h with
  | [], h => exact ⟨rfl, by rwa [RowT] at h⟩
  | [_], h => simp [RowT] at h
  | [_, _], h => simp [RowT] at h
  | _ :: _ :: _ :: _, h => simp [RowT] at h
theorem RowT.le {w : World} {P : Nat → Prop} : ∀ {ds : List Nd} {lo hi : Nat} {xs : List Value}, RowT w P lo hi xs ds → lo ≤ hi
  | [], lo, hi, xs, h => h.out_nil.2
  | d :: ds, lo, hi, xs, h => by
    obtain ⟨c0, c1, c2, ys, l, m, rfl, h1, h2, h3, h4, h5⟩ := h.out
    have := RowT.le h5
    omega
theorem RowT.keep {w w' : World} {P P' : Nat → Prop} : ∀ {ds : List Nd} {lo hi hi' : Nat} {xs : List Value}, hi ≤ hi' → (∀ k, lo ≤ k → k < hi → ¬ P k → w'.heap[k]? = w.heap[k]? ∧ ¬ P' k) → RowT w P lo hi xs ds → RowT w' P' lo hi' xs ds
  | [], lo, hi, hi', xs, hh, hF, h => by
    obtain ⟨rfl, h1⟩ := h.out_nil
    rw [RowT]; omega
  | d :: ds, lo, hi, hi', xs, hh, hF, h => by
    obtain ⟨c0, c1, c2, ys, l, m, rfl, h1, h2, h3, h4, h5⟩ := h.out
    have hle := RowT.le h5
    rw [RowT]
    exact ⟨l, m, h1, h2, fun k hk1 hk2 => (hF k (by omega) (by omega) (h3 k hk1 hk2)).2, IsT.keep d l m l m _ (Nat.le_refl _) (Nat.le_refl _) (fun k hk1 hk2 => (hF k (by omega) (by omega) (h3 k hk1 hk2)).1) h4, RowT.keep hh (fun k hk1 hk2 hk3 => hF k (by omega) hk2 hk3) h5⟩
theorem RowT.snoc {w : World} {P : Nat → Prop} {d : Nd} {c0 c1 c2 : Value} {l m : Nat} (hlm : l ≤ m) (hP : ∀ k, l ≤ k → k < m → ¬ P k) (hd : IsT w l m d (.agg #[c0, c1, c2])) : ∀ {ds : List Nd} {lo hi : Nat} {xs : List Value}, hi ≤ l → RowT w P lo hi xs ds → RowT w P lo m (xs ++ [c0, c1, c2]) (ds ++ [d])
  | [], lo, hi, xs, hl, h => by
    obtain ⟨rfl, h1⟩ := h.out_nil
    rw [List.nil_append, List.nil_append, RowT]
    exact ⟨l, m, by omega, hlm, hP, hd, by rw [RowT]; exact Nat.le_refl _⟩
  | e :: ds, lo, hi, xs, hl, h => by
    obtain ⟨e0, e1, e2, ys, l0, m0, rfl, h1, h2, h3, h4, h5⟩ := h.out
    rw [List.cons_append, List.cons_append, List.cons_append, List.cons_append, RowT]
    exact ⟨l0, m0, h1, h2, h3, h4, RowT.snoc hlm hP hd hl h5⟩
theorem IsT.cells {w : World} {lo hi : Nat} {d : Nd} {c0 c1 c2 : Value} (h : IsT w lo hi d (.agg #[c0, c1, c2])) : c0.oneCell' = true ∧ c1.oneCell' = true ∧ c2.oneCell' = true :=
  IsNd.cells (IsT.nd (w' := w) (F := fun _ => True) d lo hi _ (fun _ _ _ => ⟨rfl, trivial⟩) h)
theorem RowT.length {w : World} {P : Nat → Prop} : ∀ {ds : List Nd} {lo hi : Nat} {xs : List Value}, RowT w P lo hi xs ds → xs.length = ds.length * 3
  | [], lo, hi, xs, h => by rw [h.out_nil.1]; rfl
  | d :: ds, lo, hi, xs, h => by
    obtain ⟨c0, c1, c2, ys, l, m, rfl, h1, h2, h3, h4, h5⟩ := h.out
    simp [RowT.length h5]
    omega
/-- A row in a block. -/
theorem RowT.ts {w : World} {b : Nat} {P : Nat → Prop} (hP : P b) : ∀ {ds : List Nd} {lo hi o : Nat} {xs : List Value}, (∀ j u, xs[j]? = some u → w.cell? ⟨b, o + j, none⟩ = some u) → RowT w P lo hi xs ds → IsTs w b lo hi o (Nds.ofL ds)
  | [], lo, hi, o, xs, _, _ => by rw [Nds.ofL, IsTs]; trivial
  | d :: ds, lo, hi, o, xs, hc, h => by
    obtain ⟨c0, c1, c2, ys, l, m, rfl, h1, h2, h3, h4, h5⟩ := h.out
    have hle := RowT.le h5
    rw [Nds.ofL, IsTs]
    refine ⟨l, m, h1, h2, hle, ?_, ⟨c0, c1, c2, by simpa using hc 0 c0 rfl, hc 1 c1 rfl, hc 2 c2 rfl, h4⟩, RowT.ts hP (fun j u hu => ?_) h5⟩
    · rcases Nat.lt_or_ge b l with h | h
      · exact Or.inl h
      · rcases Nat.lt_or_ge b m with h' | h'
        · exact absurd hP (h3 b h h')
        · exact Or.inr h'
    · rw [show o + 3 + j = o + (j + 3) by omega]
      exact hc (j + 3) u (by simpa using hu)
/-- A row of one's own, its nodes in blocks from lo on, apart from each other. -/
def HT (B lo : Nat) (W : World) (v : Value) (ds : List Nd) : Prop := ∃ xs hi, W.ownsRow B 24 3 v ds.length xs ∧ RowT W (fun k => v.ownBlock = some k) lo hi xs ds ∧ hi ≤ W.heap.size ∧ (∀ g, v.ownBlock = some g → lo ≤ g)
theorem HT.nil {B lo : Nat} {W : World} (h : lo ≤ W.heap.size) : HT B lo W (.slice none 0 0) [] := ⟨[], lo, World.ownsRow_nil _ _ _ _, by rw [RowT]; exact Nat.le_refl _, h, fun g h => by simp [Value.ownBlock] at h⟩
theorem HT.form {B lo : Nat} {W : World} {v : Value} {ds : List Nd} (h : HT B lo W v ds) : ∃ a c, v = .slice a ds.length c := by
  obtain ⟨xs, hi, h1, _⟩ := h
  exact own_form h1
theorem HT.form' {B lo : Nat} {W : World} {v : Value} {ds : List Nd} (h : HT B lo W v ds) : ∃ a n c, v = .slice a n c := by
  obtain ⟨a, c, rfl⟩ := h.form
  exact ⟨a, _, c, rfl⟩
theorem HT.call {B lo : Nat} {W W' : World} {v : Value} {ds : List Nd} (h : HT B lo W v ds) (hb : Below W.heap.size W W') : HT B lo W' v ds := by
  obtain ⟨xs, hi, h1, h2, h3, h4⟩ := h
  exact ⟨xs, hi, own_below h1 hb, h2.keep (Nat.le_refl _) (fun k h1 h2 h5 => ⟨hb.block k (by omega), h5⟩), Nat.le_trans h3 hb.size, h4⟩
theorem HT.onto {B lo : Nat} {W W' : World} {v : Value} {ds : List Nd} (e : W' = W) (h : HT B lo W v ds) : HT B lo W' v ds := e ▸ h
theorem HT.al {B lo : Nat} {W : World} {v : Value} {ds : List Nd} (h : HT B lo W v ds) (o : Obj) : HT B lo (W.alloc o) v ds := h.call ((Below.refl _ W).alloc (Nat.le_refl _) o)
theorem HT.st {B lo : Nat} {W : World} {v : Value} {ds : List Nd} (h : HT B lo W v ds) {g : Nat} (hg : g < lo) (i : Nat) (x : Value) : HT B lo (W.setCell ⟨g, i, none⟩ x) v ds := by
  obtain ⟨xs, hi, h1, h2, h3, h4⟩ := h
  refine ⟨xs, hi, ⟨h1.1, ?_⟩, h2.keep (Nat.le_refl _) (fun k h1 h2 h5 => ⟨Below.heap_setCell W ⟨g, i, none⟩ x k (show k ≠ g by omega), h5⟩), by simpa using h3, h4⟩
  rcases h1.2 with hn | ⟨g', cap, cur, hv, hb', hgg, rest⟩
  · exact .inl hn
  · exact .inr ⟨g', cap, cur, hv, hb', (Below.heap_setCell W ⟨g, i, none⟩ x g' (show g' ≠ g by have := h4 g' (by rw [hv]; rfl); omega)).trans hgg, rest⟩
theorem HT.st3 {B lo : Nat} {W : World} {v : Value} {ds : List Nd} (h : HT B lo W v ds) {g : Nat} (hg : g < lo) (x y z : Value) : HT B lo (((W.setCell ⟨g, 0, none⟩ x).setCell ⟨g, 1, none⟩ y).setCell ⟨g, 2, none⟩ z) v ds := ((h.st hg 0 x).st hg 1 y).st hg 2 z
/-- One node more, which a call made. -/
theorem HT.snoc {w W W' : World} {lo : Nat} {v : Value} {ds : List Nd} {d : Nd} {c0 c1 c2 : Value} {V : List (Nat × TypeId × Array Value)} (h : HT w.heap.size lo W v ds) (hb : Below W.heap.size W W') (hd : IsT W' W.heap.size W'.heap.size d (.agg #[c0, c1, c2])) (hS : St w W' V) (hlo : lo ≤ W.heap.size) (hV : ∀ x ∈ V, x.1 < lo ∨ v.ownBlock ≠ some x.1) (hl : ds.length + 1 ≤ 1000000) :
    ∃ v' w', (Builtin.append_ #[22, 22] 22 #[v, .slice (some ⟨W'.heap.size, 0, none⟩) 1 1]).run Tryz.prog (W'.alloc (.cells #[c0, c1, c2] 24)) = .ok v' w' ∧ HT w.heap.size lo w' v' (ds ++ [d]) ∧ St w w' V ∧ (∀ g, v'.ownBlock = some g → v.ownBlock = some g ∨ W'.heap.size ≤ g) := by
  obtain ⟨xs, hi, h1, h2, h3, h4⟩ := h
  have hsz := hb.size
  have h1' := own_below h1 hb
  have h2' : RowT W' (fun k => v.ownBlock = some k) lo hi xs ds := h2.keep (Nat.le_refl _) (fun k e1 e2 h5 => ⟨hb.block k (by omega), h5⟩)
  have hbl := Blk.new W' 24 #[c0, c1, c2]
  obtain ⟨k0, k1, k2⟩ := hd.cells
  obtain ⟨v', w', hr, hown, hg, hblk⟩ := append_run (h1'.alloc _) W'.heap.size 0 1 1 [c0, c1, c2] rfl (fun j u hu => by rw [Nat.zero_add, hbl.cell j]; simpa using hu) (by simp [k0, k1, k2]) hl (by omega) (by simp; have := hS.below.size; omega)
  have hsz' := hg.size
  simp at hsz'
  have hkeep : ∀ k, k < W'.heap.size → v.ownBlock ≠ some k → w'.heap[k]? = W'.heap[k]? := fun k hk hne => (hg.block k (by simp; omega) (fun e => hne e.symm)).trans (Below.heap_alloc W' _ k hk)
  have hbk : ∀ g, v'.ownBlock = some g → v.ownBlock = some g ∨ W'.heap.size ≤ g := fun g e => (hblk g e).imp id (fun h => by simp at h; omega)
  have hold : ∀ g, v.ownBlock = some g → g < W.heap.size := fun g e => (h1.lt g e).2
  have hnP : ∀ k, k < W'.heap.size → v.ownBlock ≠ some k → ¬ v'.ownBlock = some k := fun k hk hne e => by
    rcases hbk k e with h | h
    · exact hne h
    · omega
  refine ⟨v', w', hr, ⟨xs ++ [c0, c1, c2], W'.heap.size, by rw [List.length_append]; exact hown, ?_, by omega, fun g e => ?_⟩, ⟨(bl_al hS.below _).grown hg (by simp; have := hS.below.size; omega) (fun r hr => (h1.lt r hr).1), fun x hx => ⟨(hS.vars x hx).1, ?_⟩, hS.nodup⟩, hbk⟩
  · refine RowT.snoc hsz (fun k e1 e2 => hnP k e2 (fun e => by have := hold k e; omega)) (IsT.keep d _ _ _ _ _ (Nat.le_refl _) (Nat.le_refl _) (fun k e1 e2 => hkeep k e2 (fun e => by have := hold k e; omega)) hd) h3 (h2'.keep (Nat.le_refl _) (fun k e1 e2 e3 => ⟨hkeep k (by omega) e3, hnP k (by omega) e3⟩))
  · rcases hbk g e with h | h
    · exact h4 g h
    · omega
  · refine ((hS.vars x hx).2.alloc _).grown hg (fun e => ?_)
    rcases hV x hx with h | h
    · have := h4 x.1 e.symm
      omega
    · exact h e.symm
/-- The node of such a row. -/
theorem HT.node {B lo : Nat} {W : World} {v : Value} {ds : List Nd} {k : Int} {s : ByteArray} {lo' : Nat} (h : HT B lo W v ds) (hk : -9223372036854775808 ≤ k ∧ k ≤ 9223372036854775807) (hs : s.size ≤ maxLen) (hlo : lo' ≤ lo) : IsT W lo' W.heap.size (Nd.of k s ds) (.agg #[.int .i64 k, .string s, v]) := by
  obtain ⟨xs, hi, h1, h2, h3, h4⟩ := h
  have hc := h1
  have hlen := RowT.length h2
  rw [Nd.of, IsT, Nds.len_ofL]
  rcases h1.2 with ⟨rfl, hn⟩ | ⟨g, cap, cur, rfl, hbg, hg, hnc, hcm, _⟩
  · exact ⟨none, 0, by rw [hn], hk, hs, by omega, fun hne => absurd hn hne⟩
  · refine ⟨some ⟨g, 0, none⟩, cap, rfl, hk, hs, by omega, fun _ => ⟨g, cur, rfl, by have := h4 g rfl; omega, (Array.getElem?_eq_some_iff.1 hg).1, hg, ?_⟩⟩
    refine IsTs.keep _ lo hi lo' _ 0 g hlo h3 (fun _ _ _ _ => rfl) (fun _ => rfl) (RowT.ts (P := fun k => (Value.slice (some ⟨g, 0, none⟩) ds.length cap).ownBlock = some k) rfl (fun j u hu => ?_) h2)
    have hj : j < ds.length * 3 := by
      have := (List.getElem?_eq_some_iff.1 hu).1
      rwa [hlen] at this
    rw [Nat.zero_add, hc.cellAt j hj, hu]
end Go.Proofs.YtacgmmpdichlmaaGreat
