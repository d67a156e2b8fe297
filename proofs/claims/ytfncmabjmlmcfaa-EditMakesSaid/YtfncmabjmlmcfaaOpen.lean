/-
  How edits that came in read.
  No condition.
-/
import Derived.Test.YtfncmabjmlmcfaaRow
import Derived.SizedLaws
namespace Go.Proofs.Ytfncmabjmlmcfaa
open Go.ChangeShapes Go.WideShapes Go.RowKit Go.Deep

section
variable {H : Type} {enc : TypeId × Value → H} {P : Program} {w : World} {base : Nat} {spare : Nat → Bool} {held : Bool}
theorem open_slice_fields {t e : TypeId} {fs : Array Field} {fuel : Nat} {cs : List Value} {x : DataW H × List MemPlace} (ht : P.underlying t = some (.slice e)) (he : P.underlying e = some (.struct fs))
    (hone : oneCellFields P fs = true) (hC : P.cellsOf e = fs.size) (h : DataW.trod enc P w base spare held fuel t cs = some x) :
    (cs = [.slice none 0 0] ∧ x = (.nil, [])) ∨
    ∃ (a : Addr) (len cap m : Nat) (D : Nat → DataW H) (Pl : Nat → List MemPlace), cs = [.slice (some a) len cap] ∧ base ≤ a.block ∧ len ≤ cap ∧ cap ≤ maxLen ∧ m = (if spare a.block then cap else len) ∧
      x = (.slice ((List.range len).map D) ((List.range (m - len)).map fun j => D (len + j)), MemPlace.row a (m * fs.size) ++ (List.range m).flatMap Pl) ∧
      ∀ i, i < m → ∃ (ys : List (DataW H × List MemPlace)) (n : Nat), D i = .agg (ys.map (·.1)) ∧ Pl i = ys.flatMap (·.2) ∧ ys.length = fs.size ∧
        ∀ (j : Nat) (f : Field), fs[j]? = some f → ∃ (v : Value) (y : DataW H × List MemPlace), w.cell? (a.add (i * fs.size + j)) = some v ∧ ys[j]? = some y ∧ DataW.trod enc P w base spare held n f.type [v] = some y := by
  rcases open_slice ht h with h0 | ⟨a, len, cap, m, n, D, Pl, hcs, hb, hl, hm, hmm, hx, hi⟩
  · exact .inl h0
  · refine .inr ⟨a, len, cap, m, D, Pl, hcs, hb, hl, hm, hmm, by rw [hC] at hx; exact hx, fun i him => ?_⟩
    obtain ⟨cs', hc, ht'⟩ := hi i him
    rw [hC] at hc
    obtain ⟨ys, n', hn', hy, hlen, hyl, hf⟩ := DataW.trod_struct he ht'
    obtain ⟨_, hcl, hat⟩ := World.cells?_some hc
    simp only [Prod.mk.injEq] at hy
    refine ⟨ys, n', hy.1, hy.2, hyl, fun j f hj => ?_⟩
    obtain ⟨ho, hk⟩ := hone_of hone j f hj
    have hjl : j < fs.size := (Array.getElem?_eq_some_iff.1 hj).1
    have hcell := hat j hjl
    have hv : cs'[j]? = some (cs'[j]'(by omega)) := List.getElem?_eq_getElem (by omega)
    have h1 := hf j f hj
    rw [ho, hk] at h1
    have hone' : (cs'.drop j).take 1 = [cs'[j]'(by omega)] := by
      rw [List.drop_eq_getElem_cons (by omega)]
      rfl
    rw [hone'] at h1
    have hys : ys[j]? = some (ys[j]'(by omega)) := List.getElem?_eq_getElem (by omega)
    refine ⟨_, _, ?_, hys, h1.trans hys⟩
    rw [← Go.Deep.add_add, hcell, hv]
end

theorem list_of {P : Nat → Ed → Prop} : ∀ n : Nat, (∀ i, i < n → ∃ e, P i e) → ∃ l : List Ed, l.length = n ∧ ∀ (k : Nat) (e : Ed), l[k]? = some e → P k e
  | 0, _ => ⟨[], rfl, by simp⟩
  | n + 1, h => by
    obtain ⟨l, hl, hp⟩ := list_of n fun i hi => h i (by omega)
    obtain ⟨e, he⟩ := h n (by omega)
    refine ⟨l ++ [e], by simp [hl], fun k x hx => ?_⟩
    rcases Nat.lt_or_ge k n with h1 | h1
    · rw [List.getElem?_append_left (by omega)] at hx
      exact hp k x hx
    · rw [List.getElem?_append_right (by omega)] at hx
      have h2 : k - l.length = 0 := by
        rcases Nat.eq_zero_or_pos (k - l.length) with h3 | h3
        · exact h3
        · rw [List.getElem?_eq_none (by simp; omega)] at hx
          cases hx
      rw [h2] at hx
      obtain rfl : e = x := by simpa using hx
      rw [show k = n by omega]
      exact he

theorem weights_all {H : Type} {P : Program} {t : TypeId} : ∀ {ds : List (DataW H)} {d : DataW H}, d ∈ ds → ∀ n ∈ d.weights P t, n ∈ DataW.weightsAll P t ds
  | x :: r, d, hd, n, hn => by
    simp only [DataW.weightsAll, List.mem_append]
    rcases List.mem_cons.1 hd with rfl | hd
    · exact Or.inl hn
    · exact Or.inr (weights_all hd n hn)

theorem open_eds {H : Type} {enc : TypeId × Value → H} {W : World} {base : Nat} {v : Value} {d : DataW H} {ps : List MemPlace} (hval : Value.okWide Try.prog W .any base 26 v) (h : DataW.Trod enc Try.prog W 0 (fun _ => true) true 26 v d ps)
    (hz : ∀ n ∈ d.weights Try.prog 26, n ≤ 140737488351232) :
    ∃ a m cap l, v = .slice a m cap ∧ IsEds W (· < W.heap.size) a m l ∧ ∀ e ∈ l, e.text.size ≤ 140737488351232 := by
  obtain ⟨a, m, cap, rfl⟩ := okWide_slice Try.underlying26 hval
  obtain ⟨fuel, hf⟩ := h
  rcases open_slice_fields Try.underlying26 Try.underlying36 (by kernel_rfl) (by kernel_rfl) hf with ⟨hcs, hx⟩ | ⟨a', m', cap', mm, D, Pl, hcs, _, hl, hm, hmm, hx, hi⟩
  · simp [Value.cells] at hcs
    obtain ⟨rfl, rfl, rfl⟩ := hcs
    exact ⟨none, 0, 0, [], rfl, ⟨rfl, Nat.zero_le _, by simp, by simp⟩, by simp⟩
  · simp [Value.cells] at hcs
    obtain ⟨rfl, rfl, rfl⟩ := hcs
    simp only [if_true] at hmm
    subst hmm
    simp only [Prod.mk.injEq] at hx
    obtain ⟨rfl, _⟩ := hx
    have each : ∀ i, i < m → ∃ e : Ed, e.fits ∧ e.text.size ≤ 140737488351232 ∧ W.cell? (a'.add (i * 3)) = some (.int .i64 e.lo) ∧ W.cell? (a'.add (i * 3 + 1)) = some (.int .i64 e.hi) ∧ W.cell? (a'.add (i * 3 + 2)) = some (.string e.text) := by
      intro i him
      obtain ⟨ys, n, hD, _, hyl, hff⟩ := hi i (by omega)
      obtain ⟨v0, y0, c0, hy0, t0⟩ := hff 0 _ rfl
      obtain ⟨v1, y1, c1, hy1, t1⟩ := hff 1 _ rfl
      obtain ⟨v2, y2, c2, hy2, t2⟩ := hff 2 _ rfl
      obtain ⟨lo, hlo, _, wlo⟩ := DataW.trod_int Try.underlying3 t0
      obtain ⟨hi', hhi, _, whi⟩ := DataW.trod_int Try.underlying3 t1
      obtain ⟨tx, htx, hy2', wtx⟩ := DataW.trod_string Try.underlying9 t2
      simp only [List.cons.injEq, and_true] at hlo hhi htx
      subst hlo hhi htx
      have hw1 : -9223372036854775808 ≤ lo ∧ lo ≤ 9223372036854775807 := by simpa [Lit.wf, IntKind.min, IntKind.max, IntKind.signed, IntKind.bits] using wlo
      have hw2 : -9223372036854775808 ≤ hi' ∧ hi' ≤ 9223372036854775807 := by simpa [Lit.wf, IntKind.min, IntKind.max, IntKind.signed, IntKind.bits] using whi
      refine ⟨⟨lo, hi', tx⟩, ⟨hw1.1, hw1.2, hw2.1, hw2.2, wtx⟩, ?_, c0, c1, c2⟩
      have hin : tx.data.toList.length ∈ (D i).weights Try.prog 36 := by
        rw [hD]
        simp only [DataW.weights, Try.underlying36]
        refine DataW.weights_mem_each (j := 2) (t := 9) (d := y2.1) rfl (by simp [hy2]) _ ?_
        rw [hy2']
        simp [DataW.weights]
      have := hz tx.data.toList.length (by
        simp only [DataW.weights, Try.underlying26, List.mem_cons, List.mem_append]
        exact Or.inr (Or.inl (weights_all (List.mem_map.2 ⟨i, List.mem_range.2 him, rfl⟩) _ hin)))
      simpa using this
    obtain ⟨l, hll, hp⟩ := list_of m each
    refine ⟨some a', m, _, l, rfl, ⟨hll.symm, by omega, ?_, ?_⟩, ?_⟩
    · intro e he
      obtain ⟨k, hk⟩ := List.getElem?_of_mem he
      exact (hp k e hk).1
    · intro hne
      have hm0 : 0 < m := by
        rcases Nat.eq_zero_or_pos m with h0 | h0
        · subst h0; exact absurd (List.eq_nil_of_length_eq_zero hll) hne
        · exact h0
      obtain ⟨e0, _, _, c0, _⟩ := each 0 hm0
      obtain ⟨ab, ao, spot⟩ := a'
      have hspot : spot = none := by simpa [Addr.add] using World.cell?_spot c0
      subst hspot
      refine ⟨ab, ao, rfl, ?_, ?_⟩
      · rcases Nat.lt_or_ge ab W.heap.size with h1 | h1
        · exact h1
        · rw [Addr.add_lit] at c0
          simp [World.cell?, Array.getElem?_eq_none h1] at c0
      · intro k e hk
        obtain ⟨_, _, h1, h2, h3⟩ := hp k e hk
        rw [Addr.add_lit] at h1 h2 h3
        exact ⟨h1, h2, h3⟩
    · intro e he
      obtain ⟨k, hk⟩ := List.getElem?_of_mem he
      exact (hp k e hk).2.1
end Go.Proofs.Ytfncmabjmlmcfaa
