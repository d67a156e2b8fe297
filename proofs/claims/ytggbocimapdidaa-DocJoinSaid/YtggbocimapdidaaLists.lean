/-
  Lists of documents: as a row of cells, as a slice.
  No condition.
-/
import Derived.Test.YtggbocimapdidaaMake
namespace Go.Proofs.Ytggbocimapdidaa
open Go.RowKit

def Dc.kind : Dc → Int
  | .mk k _ _ _ => k

/-- The cells xs read as the documents ds, four cells each. -/
def IsRow (w : World) (F : Nat → Prop) : List Value → List Dc → Prop
  | [], [] => True
  | c0 :: c1 :: c2 :: c3 :: xs, d :: ds => IsDc w F d (.agg #[c0, c1, c2, c3]) ∧ IsRow w F xs ds
  | _, _ => False

theorem IsRow.nil {w : World} {F : Nat → Prop} : IsRow w F [] [] := by rw [IsRow]; trivial
theorem IsRow.cons {w : World} {F : Nat → Prop} {c0 c1 c2 c3 : Value} {xs : List Value} {d : Dc} {ds : List Dc} : IsRow w F (c0 :: c1 :: c2 :: c3 :: xs) (d :: ds) ↔ IsDc w F d (.agg #[c0, c1, c2, c3]) ∧ IsRow w F xs ds := by rw [IsRow]

/-- The shape of a row. -/
theorem IsRow.out {w : World} {F : Nat → Prop} {xs : List Value} {d : Dc} {ds : List Dc} (h : IsRow w F xs (d :: ds)) : ∃ c0 c1 c2 c3 ys, xs = c0 :: c1 :: c2 :: c3 :: ys ∧ IsDc w F d (.agg #[c0, c1, c2, c3]) ∧ IsRow w F ys ds := by
  match xs, h with
  | [], h => simp [IsRow] at h
  | [_], h => simp [IsRow] at h
  | [_, _], h => simp [IsRow] at h
  | [_, _, _], h => simp [IsRow] at h
  | c0 :: c1 :: c2 :: c3 :: ys, h => exact ⟨c0, c1, c2, c3, ys, rfl, IsRow.cons.1 h⟩
theorem IsRow.out_nil {w : World} {F : Nat → Prop} {xs : List Value} (h : IsRow w F xs []) : xs = [] := by
  match xs, h with
  | [], _ => rfl
  | [_], h => simp [IsRow] at h
  | [_, _], h => simp [IsRow] at h
  | [_, _, _], h => simp [IsRow] at h
  | _ :: _ :: _ :: _ :: _, h => simp [IsRow] at h

theorem IsRow.length {w : World} {F : Nat → Prop} : ∀ {ds : List Dc} {xs : List Value}, IsRow w F xs ds → xs.length = ds.length * 4
  | [], xs, h => by rw [h.out_nil]; rfl
  | d :: ds, xs, h => by
    obtain ⟨c0, c1, c2, c3, ys, rfl, _, h2⟩ := h.out
    simp [IsRow.length h2]
    omega
theorem IsRow.append {w : World} {F : Nat → Prop} : ∀ {ds es : List Dc} {xs ys : List Value}, IsRow w F xs ds → IsRow w F ys es → IsRow w F (xs ++ ys) (ds ++ es)
  | [], es, xs, ys, h, k => by rw [h.out_nil]; exact k
  | d :: ds, es, xs, ys, h, k => by
    obtain ⟨c0, c1, c2, c3, zs, rfl, h1, h2⟩ := h.out
    exact IsRow.cons.2 ⟨h1, IsRow.append h2 k⟩
theorem IsRow.one {w : World} {F : Nat → Prop} {d : Dc} {c0 c1 c2 c3 : Value} (h : IsDc w F d (.agg #[c0, c1, c2, c3])) : IsRow w F [c0, c1, c2, c3] [d] := IsRow.cons.2 ⟨h, IsRow.nil⟩
theorem IsRow.take {w : World} {F : Nat → Prop} : ∀ {ds : List Dc} {xs : List Value} (k : Nat), IsRow w F xs ds → IsRow w F (xs.take (k * 4)) (ds.take k)
  | _, _, 0, _ => by simpa using IsRow.nil
  | [], xs, k + 1, h => by rw [h.out_nil]; simpa using IsRow.nil
  | d :: ds, xs, k + 1, h => by
    obtain ⟨c0, c1, c2, c3, ys, rfl, h1, h2⟩ := h.out
    rw [show (k + 1) * 4 = k * 4 + 4 by omega]
    simp only [List.take_succ_cons]
    exact IsRow.cons.2 ⟨h1, IsRow.take k h2⟩
theorem IsRow.drop {w : World} {F : Nat → Prop} : ∀ {ds : List Dc} {xs : List Value} (k : Nat), IsRow w F xs ds → IsRow w F (xs.drop (k * 4)) (ds.drop k)
  | _, _, 0, h => by simpa using h
  | [], xs, k + 1, h => by rw [h.out_nil]; simpa using IsRow.nil
  | d :: ds, xs, k + 1, h => by
    obtain ⟨c0, c1, c2, c3, ys, rfl, h1, h2⟩ := h.out
    rw [show (k + 1) * 4 = k * 4 + 4 by omega]
    simp only [List.drop_succ_cons]
    exact IsRow.drop k h2
theorem IsRow.keep {w w' : World} {F F' : Nat → Prop} (hF : ∀ b, F b → F' b ∧ w'.heap[b]? = w.heap[b]?) : ∀ {ds : List Dc} {xs : List Value}, IsRow w F xs ds → IsRow w' F' xs ds
  | [], xs, h => by rw [h.out_nil]; exact IsRow.nil
  | d :: ds, xs, h => by
    obtain ⟨c0, c1, c2, c3, ys, rfl, h1, h2⟩ := h.out
    exact IsRow.cons.2 ⟨IsDc.keep hF _ _ h1, IsRow.keep hF h2⟩
theorem IsRow.get {w : World} {F : Nat → Prop} : ∀ {ds : List Dc} {xs : List Value} {k : Nat} {d : Dc}, IsRow w F xs ds → ds[k]? = some d →
    ∃ c0 c1 c2 c3, xs[k * 4]? = some c0 ∧ xs[k * 4 + 1]? = some c1 ∧ xs[k * 4 + 2]? = some c2 ∧ xs[k * 4 + 3]? = some c3 ∧ IsDc w F d (.agg #[c0, c1, c2, c3])
  | [], xs, k, d, _, h => by simp at h
  | x :: ds, xs, 0, d, h, hk => by
    obtain ⟨c0, c1, c2, c3, ys, rfl, h1, _⟩ := h.out
    obtain rfl : x = d := by simpa using hk
    exact ⟨c0, c1, c2, c3, rfl, rfl, rfl, rfl, h1⟩
  | x :: ds, xs, k + 1, d, h, hk => by
    obtain ⟨c0, c1, c2, c3, ys, rfl, _, h2⟩ := h.out
    obtain ⟨e0, e1, e2, e3, g0, g1, g2, g3, g4⟩ := IsRow.get h2 (k := k) (d := d) (by simpa using hk)
    refine ⟨e0, e1, e2, e3, ?_, ?_, ?_, ?_, g4⟩
    · rw [show (k + 1) * 4 = k * 4 + 4 by omega]; simpa using g0
    · rw [show (k + 1) * 4 + 1 = k * 4 + 1 + 4 by omega]; simpa using g1
    · rw [show (k + 1) * 4 + 2 = k * 4 + 2 + 4 by omega]; simpa using g2
    · rw [show (k + 1) * 4 + 3 = k * 4 + 3 + 4 by omega]; simpa using g3

theorem IsDc.cells {w : World} {F : Nat → Prop} {d : Dc} {c0 c1 c2 c3 : Value} (h : IsDc w F d (.agg #[c0, c1, c2, c3])) : c0.oneCell' = true ∧ c1.oneCell' = true ∧ c2.oneCell' = true ∧ c3.oneCell' = true := by
  obtain ⟨k, s, n, a, m, cap, hv⟩ := h.form
  simp only [Value.agg.injEq, Array.mk.injEq, List.cons.injEq, and_true] at hv
  obtain ⟨rfl, rfl, rfl, rfl⟩ := hv
  exact ⟨rfl, rfl, rfl, rfl⟩
theorem IsRow.oneCell {w : World} {F : Nat → Prop} : ∀ {ds : List Dc} {xs : List Value}, IsRow w F xs ds → ∀ u ∈ xs, u.oneCell' = true
  | [], xs, h, u, hu => by rw [h.out_nil] at hu; simp at hu
  | d :: ds, xs, h, u, hu => by
    obtain ⟨c0, c1, c2, c3, ys, rfl, h1, h2⟩ := h.out
    obtain ⟨g0, g1, g2, g3⟩ := h1.cells
    simp only [List.mem_cons] at hu
    rcases hu with rfl | rfl | rfl | rfl | hu
    · exact g0
    · exact g1
    · exact g2
    · exact g3
    · exact IsRow.oneCell h2 u hu

/-- A row that lies in a block. -/
theorem IsRow.dcs {w : World} {F : Nat → Prop} {b : Nat} : ∀ {ds : List Dc} {xs : List Value} {o : Nat}, (∀ j u, xs[j]? = some u → w.cell? ⟨b, o + j, none⟩ = some u) → IsRow w F xs ds → IsDcs w F b o (Dcs.ofL ds)
  | [], xs, o, _, _ => by rw [Dcs.ofL, IsDcs]; trivial
  | d :: ds, xs, o, hc, h => by
    obtain ⟨c0, c1, c2, c3, ys, rfl, h1, h2⟩ := h.out
    rw [Dcs.ofL, IsDcs]
    refine ⟨⟨c0, c1, c2, c3, by simpa using hc 0 c0 rfl, hc 1 c1 rfl, hc 2 c2 rfl, hc 3 c3 rfl, h1⟩, IsRow.dcs (fun j u hu => ?_) h2⟩
    rw [show o + 4 + j = o + (j + 4) by omega]
    exact hc (j + 4) u (by simpa using hu)
theorem IsDcs.row {w : World} {F : Nat → Prop} {b : Nat} : ∀ {ks : Dcs} {o : Nat}, IsDcs w F b o ks → ∃ xs, IsRow w F xs ks.toL ∧ ∀ j u, xs[j]? = some u → w.cell? ⟨b, o + j, none⟩ = some u
  | .nil, o, _ => ⟨[], by rw [Dcs.toL]; exact IsRow.nil, fun j u h => by simp at h⟩
  | .cons d r, o, h => by
    rw [IsDcs] at h
    obtain ⟨⟨c0, c1, c2, c3, h0, h1, h2, h3, h4⟩, h5⟩ := h
    obtain ⟨xs, hx, hc⟩ := IsDcs.row h5
    refine ⟨c0 :: c1 :: c2 :: c3 :: xs, by rw [Dcs.toL]; exact IsRow.cons.2 ⟨h4, hx⟩, fun j u hu => ?_⟩
    match j, hu with
    | 0, hu => simpa using h0.trans hu
    | 1, hu => exact h1.trans hu
    | 2, hu => exact h2.trans hu
    | 3, hu => exact h3.trans hu
    | j + 4, hu =>
      have := hc j u (by simpa using hu)
      rw [show o + (j + 4) = o + 4 + j by omega]
      exact this

/-- The slice reads as the documents. -/
def IsSl (w : World) (F : Nat → Prop) (ds : List Dc) (v : Value) : Prop :=
  ∃ (a : Option Addr) (cap : Nat), v = .slice a ds.length cap ∧ ds.length ≤ maxLen ∧ (ds.length ≠ 0 → ∃ b o, a = some ⟨b, o, none⟩ ∧ F b ∧ IsDcs w F b o (Dcs.ofL ds))

theorem Dcs.len_ofL (l : List Dc) : (Dcs.ofL l).len = l.length := by rw [← Dcs.len_toL, Dcs.toL_ofL]

theorem IsSl.keep {w w' : World} {F F' : Nat → Prop} (hF : ∀ b, F b → F' b ∧ w'.heap[b]? = w.heap[b]?) {ds : List Dc} {v : Value} (h : IsSl w F ds v) : IsSl w' F' ds v := by
  obtain ⟨a, cap, rfl, hl, hk⟩ := h
  refine ⟨a, cap, rfl, hl, fun hne => ?_⟩
  obtain ⟨b, o, ha, hb, hd⟩ := hk hne
  exact ⟨b, o, ha, (hF b hb).1, IsDcs.keep hF _ b o hb hd⟩

theorem IsDc.split {w : World} {F : Nat → Prop} {k n : Int} {s : ByteArray} {ks : Dcs} {v : Value} (h : IsDc w F (.mk k s n ks) v) :
    ∃ x, v = .agg #[.int .i64 k, .string s, .int .i64 n, x] ∧ (-9223372036854775808 ≤ k ∧ k ≤ 9223372036854775807) ∧ (-9223372036854775808 ≤ n ∧ n ≤ 9223372036854775807) ∧ s.size ≤ maxLen ∧ IsSl w F ks.toL x := by
  rw [IsDc] at h
  obtain ⟨a, cap, h0, h1, h2, h3, h4, h5⟩ := h
  refine ⟨_, h0, h1, h2, h3, a, cap, by rw [Dcs.len_toL], by rw [Dcs.len_toL]; exact h4, fun hne => ?_⟩
  rw [Dcs.ofL_toL]
  exact h5 (by rwa [Dcs.len_toL] at hne)
theorem IsDc.join {w : World} {F : Nat → Prop} {k n : Int} {s : ByteArray} {ds : List Dc} {x : Value} (hk : -9223372036854775808 ≤ k ∧ k ≤ 9223372036854775807) (hn : -9223372036854775808 ≤ n ∧ n ≤ 9223372036854775807) (hs : s.size ≤ maxLen) (h : IsSl w F ds x) :
    IsDc w F (.mk k s n (Dcs.ofL ds)) (.agg #[.int .i64 k, .string s, .int .i64 n, x]) := by
  obtain ⟨a, cap, rfl, hl, hd⟩ := h
  rw [IsDc, Dcs.len_ofL]
  exact ⟨a, cap, rfl, hk, hn, hs, hl, hd⟩

/-- A row that was made by appending, as a slice. -/
theorem IsSl.of_own {w : World} {F : Nat → Prop} {base : Nat} {v : Value} {xs : List Value} {ds : List Dc} (h : w.ownsRow base 25 4 v ds.length xs) (hx : IsRow w F xs ds) (hF : ∀ g, v.ownBlock = some g → F g) : IsSl w F ds v := by
  have hc := h
  rcases h.2 with ⟨rfl, hn⟩ | ⟨g, cap, cur, rfl, _, _, hnc, hcm, _⟩
  · exact ⟨none, 0, by rw [hn], by omega, fun hne => absurd hn hne⟩
  · refine ⟨some ⟨g, 0, none⟩, cap, rfl, by omega, fun _ => ⟨g, 0, rfl, hF g rfl, IsRow.dcs (fun j u hu => ?_) hx⟩⟩
    have hj : j < ds.length * 4 := by
      have := (List.getElem?_eq_some_iff.1 hu).1
      rwa [hx.length] at this
    rw [Nat.zero_add, hc.cellAt j hj, hu]
end Go.Proofs.Ytggbocimapdidaa
