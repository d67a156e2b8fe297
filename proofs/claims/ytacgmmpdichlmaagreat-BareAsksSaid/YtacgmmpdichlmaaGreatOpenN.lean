/-
  How nodes and numbers that came in read.
  No condition.
-/
import Derived.Test.YtacgmmpdichlmaaGreatM00
import Derived.Test.YtacgmmpdichlmaaGreatM27
import Derived.SizedLaws
import Derived.Deep.Slices
namespace Go.Proofs.YtacgmmpdichlmaaGreat
open Go.ChangeShapes Go.WideShapes Go.RowKit Go.Deep
set_option maxRecDepth 100000

theorem list_of {P : Nat → Nd → Prop} : ∀ n : Nat, (∀ i, i < n → ∃ e, P i e) → ∃ l : List Nd, l.length = n ∧ ∀ (k : Nat) (e : Nd), l[k]? = some e → P k e
  | 0, _ => ⟨[], rfl, by simp⟩
  | n + 1, h => by
    obtain ⟨l, hl, hp⟩ := list_of n fun i hi => h i (by omega)
    obtain ⟨e, he⟩ := h n (by omega)
    refine ⟨l ++ [e], by simp [hl], fun k x hx => ?_⟩
    rcases Nat.lt_or_ge k n with h1 | h1
    · rw [List.getElem?_append_left (by omega)] at hx
      exact hp k x hx
    · have hk := (List.getElem?_eq_some_iff.1 hx).1
      simp at hk
      obtain rfl : k = n := by omega
      rw [List.getElem?_append_right (by omega), hl, Nat.sub_self] at hx
      obtain rfl : e = x := by simpa using hx
      exact he
theorem nds_of {W : World} {F : Nat → Prop} {b : Nat} : ∀ (ds : List Nd) (o : Nat), (∀ (k : Nat) (d : Nd), ds[k]? = some d → ∃ c0 c1 c2, W.cell? ⟨b, o + k * 3, none⟩ = some c0 ∧ W.cell? ⟨b, o + k * 3 + 1, none⟩ = some c1 ∧ W.cell? ⟨b, o + k * 3 + 2, none⟩ = some c2 ∧ IsNd W F d (.agg #[c0, c1, c2])) → IsNds W F b o (Nds.ofL ds)
  | [], o, _ => by rw [Nds.ofL, IsNds]; trivial
  | d :: ds, o, h => by
    rw [Nds.ofL, IsNds]
    refine ⟨by simpa using h 0 d rfl, nds_of ds (o + 3) fun k x hx => ?_⟩
    have := h (k + 1) x (by simpa using hx)
    rwa [show o + (k + 1) * 3 = o + 3 + k * 3 by omega] at this
theorem cells_int : Tryz.prog.cellsOf 3 = 1 := by kernel_rfl
section
variable {H : Type} {enc : TypeId × Value → H}
theorem node_cells {W : World} : ∀ (fuel : Nat) (cs : List Value) (x : DataW H × List MemPlace), DataW.trod enc Tryz.prog W 0 (fun _ => true) true fuel 24 cs = some x →
    ∃ (d : Nd) (k : Int) (s : ByteArray) (a : Option Addr) (m c : Nat), cs = [.int .i64 k, .string s, .slice a m c] ∧ IsNd W (· < W.heap.size) d (.agg #[.int .i64 k, .string s, .slice a m c]) := by
  intro fuel
  induction fuel using Nat.strongRecOn with
  | _ fuel ih =>
  intro cs x h
  obtain ⟨ys, n, hfu, -, hl, hyl, hf⟩ := DataW.trod_struct Tryz.underlying24 h
  have hc3 : Tryz.prog.cellsOf 24 = 3 := by kernel_rfl
  have hci : Tryz.prog.cellsOf 3 = 1 := by kernel_rfl
  have hcs : Tryz.prog.cellsOf 9 = 1 := by kernel_rfl
  have hck : Tryz.prog.cellsOf 22 = 1 := by kernel_rfl
  rw [hc3] at hl
  have hys : ys.length = 3 := hyl
  match cs, hl with
  | [v0, v1, v2], _ =>
    match ys, hys with
    | [y0, y1, y2], _ =>
      have t0 : DataW.trod enc Tryz.prog W 0 (fun _ => true) true n 3 ((List.drop 0 [v0, v1, v2]).take (Tryz.prog.cellsOf 3)) = some y0 := hf 0 _ rfl
      have t1 : DataW.trod enc Tryz.prog W 0 (fun _ => true) true n 9 ((List.drop 1 [v0, v1, v2]).take (Tryz.prog.cellsOf 9)) = some y1 := hf 1 _ rfl
      have t2 : DataW.trod enc Tryz.prog W 0 (fun _ => true) true n 22 ((List.drop 2 [v0, v1, v2]).take (Tryz.prog.cellsOf 22)) = some y2 := hf 2 _ rfl
      rw [hci] at t0
      rw [hcs] at t1
      rw [hck] at t2
      simp only [List.drop_zero, List.drop_succ_cons, List.take_succ_cons, List.take_zero] at t0 t1 t2
      obtain ⟨k, hk, -, wk⟩ := DataW.trod_int Tryz.underlying3 t0
      obtain ⟨s, hs, -, ws⟩ := DataW.trod_string Tryz.underlying9 t1
      simp only [List.cons.injEq, and_true] at hk hs
      subst hk hs
      have hw : -9223372036854775808 ≤ k ∧ k ≤ 9223372036854775807 := by simpa [Lit.wf, IntKind.min, IntKind.max, IntKind.signed, IntKind.bits] using wk
      rcases DataW.trod_slice Tryz.underlying22 t2 with ⟨hn, -⟩ | ⟨a, len, cap, elems, rest, n', hn', hn, -, -, hlc, hm, hlen, hel, -, -⟩
      · simp only [List.cons.injEq, and_true] at hn
        subst hn
        exact ⟨.mk k s .nil, k, s, none, 0, 0, rfl, IsNd.leaf hw ws⟩
      · simp only [List.cons.injEq, and_true] at hn
        subst hn
        rw [hc3] at hel
        have each : ∀ i, i < len → ∃ d : Nd, ∃ c0 c1 c2, W.cell? (a.add (i * 3)) = some c0 ∧ W.cell? ((a.add (i * 3)).add 1) = some c1 ∧ W.cell? ((a.add (i * 3)).add 2) = some c2 ∧ IsNd W (· < W.heap.size) d (.agg #[c0, c1, c2]) := fun i hi => by
          have key := hel i hi
          rw [List.getElem?_eq_getElem (by omega)] at key
          obtain ⟨cs', h1, h2⟩ := Option.bind_eq_some_iff.1 key
          obtain ⟨d, k', s', a', m', c', rfl, hd⟩ := ih n' (by omega) _ _ h2
          obtain ⟨_, -, hat⟩ := World.cells?_some h1
          have e0 := hat 0 (by omega)
          have e1 := hat 1 (by omega)
          have e2 := hat 2 (by omega)
          exact ⟨d, _, _, _, by simpa [Addr.add] using e0, e1, e2, hd⟩
        obtain ⟨ds, hdl, hp⟩ := list_of len each
        subst hdl
        refine ⟨Nd.of k s ds, k, s, some a, ds.length, cap, rfl, IsNd.join hw ws ⟨some a, cap, rfl, by omega, fun hne => ?_⟩⟩
        obtain ⟨_, c0, _, _, g0, _⟩ := each 0 (by omega)
        obtain ⟨ab, ao, spot⟩ := a
        have hspot : spot = none := by simpa [Addr.add] using World.cell?_spot g0
        subst hspot
        refine ⟨ab, ao, rfl, ?_, nds_of ds ao fun q d hq => ?_⟩
        · rcases Nat.lt_or_ge ab W.heap.size with h1 | h1
          · exact h1
          · rw [Addr.add_lit] at g0
            simp [World.cell?, Array.getElem?_eq_none h1] at g0
        · obtain ⟨c0, c1, c2, h0, h1, h2, hd⟩ := hp q d hq
          rw [Addr.add_lit] at h0 h1 h2
          exact ⟨c0, c1, c2, h0, h1, h2, hd⟩
/-- A node that came in. -/
theorem open_node {W : World} {v : Value} {d : DataW H} {base : Nat} {ps : List MemPlace} (hval : Value.okWide Tryz.prog W .any base 24 v) (h : DataW.Trod enc Tryz.prog W 0 (fun _ => true) true 24 v d ps) : ∃ n : Nd, Is W n v := by
  obtain ⟨fuel, hf⟩ := h
  obtain ⟨n, k, s, a, m, c, hc, hn⟩ := node_cells fuel _ _ hf
  simp only [Value.okWide, Tryz.underlying24] at hval
  obtain ⟨cs, rfl, -, -⟩ := hval
  refine ⟨n, ?_⟩
  have : cs = #[.int .i64 k, .string s, .slice a m c] := by
    have hcs : cs.toList = [.int .i64 k, .string s, .slice a m c] := by simpa [Value.cells] using hc
    exact Array.toList_inj.1 (by simpa using hcs)
  rw [this]
  exact hn
/-- The numbers of a slice that came in. -/
theorem open_path {W : World} {base : Nat} {v : Value} {d : DataW H} {ps : List MemPlace} (hval : Value.okWide Tryz.prog W .any base 25 v) (h : DataW.Trod enc Tryz.prog W 0 (fun _ => true) true 25 v d ps) : ∃ p, IsPath W (· < W.heap.size) v p := by
  obtain ⟨a, m, cap, rfl⟩ := okWide_slice Tryz.underlying25 hval
  obtain ⟨fuel, hf⟩ := h
  rcases open_ints Tryz.underlying25 Tryz.underlying3 cells_int hf with ⟨hcs, hx⟩ | ⟨a', m', cap', zs, hcs, _, hl, hm, hz, hx, hcell, hwz⟩
  · simp [Value.cells] at hcs
    obtain ⟨rfl, rfl, rfl⟩ := hcs
    exact ⟨[], IsPath.nil⟩
  · simp [Value.cells] at hcs
    obtain ⟨rfl, rfl, rfl⟩ := hcs
    simp only [if_true] at hz
    have hzl : (zs.take m).length = m := by simp; omega
    refine ⟨zs.take m, some a', cap, by rw [hzl], ⟨by omega, by omega⟩, fun hne => ?_⟩
    have hm0 : 0 < m := by
      rcases Nat.eq_zero_or_pos m with h0 | h0
      · subst h0; simp at hne
      · exact h0
    have hc0 := hcell 0 (by omega)
    obtain ⟨ab, ao, spot⟩ := a'
    have hspot : spot = none := by simpa [Addr.add] using World.cell?_spot hc0
    subst hspot
    refine ⟨ab, ao, rfl, ?_, ?_⟩
    · rcases Nat.lt_or_ge ab W.heap.size with h1 | h1
      · exact h1
      · rw [Addr.add_lit] at hc0
        simp [World.cell?, Array.getElem?_eq_none h1] at hc0
    · intro k x hk
      obtain ⟨hk1, hk2⟩ := List.getElem?_eq_some_iff.1 hk
      have hkm : k < m := by simp at hk1; omega
      have := hcell k (by omega)
      rw [Addr.add_lit] at this
      rw [this]
      congr 2
      rw [List.getElem_take] at hk2
      rw [← hk2]
      simp [List.getD, List.getElem?_eq_getElem (show k < zs.length by omega)]
end
end Go.Proofs.YtacgmmpdichlmaaGreat
