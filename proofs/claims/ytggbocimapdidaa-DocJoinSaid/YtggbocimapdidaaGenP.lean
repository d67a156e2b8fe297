/-
  What the generator of documents does to its rows: append to a row of its own, some of its end as Kids; how much text there is.
  Its condition: there are at most 1000000 documents.
-/
import Derived.Test.YtggbocimapdidaaKnown
namespace Go.Proofs.Ytggbocimapdidaa
open Go.RowKit

theorem append_run {w : World} {base n : Nat} {v : Value} {xs : List Value} (hown : w.ownsRow base 25 4 v n xs) (b o m c : Nat) (news : List Value) (hl : news.length = m * 4)
    (hnews : ∀ j u, news[j]? = some u → w.cell? ⟨b, o + j, none⟩ = some u) (h1 : ∀ u ∈ news, u.oneCell' = true) (h63 : n + m ≤ 1000000) (hm : 0 < m) (hbase : base ≤ w.heap.size) :
    ∃ v' w', (Builtin.append_ #[23, 23] 23 #[v, .slice (some ⟨b, o, none⟩) m c]).run Try.prog w = .ok v' w' ∧ w'.ownsRow base 25 4 v' (n + m) (xs ++ news) ∧ w.grownBy w' v.ownBlock ∧ (∀ g, v'.ownBlock = some g → v.ownBlock = some g ∨ w.heap.size ≤ g) := by
  obtain ⟨i0, hi, hz0, hz1, hz2⟩ := info_parts info25
  have hn2 : ∀ j u, news[j]? = some u → w.cell? ((⟨b, o, none⟩ : Addr).add j) = some u := fun j u h => by rw [Addr.add_lit]; exact hnews j u h
  have hmax : n + m ≤ maxLen := by simp only [maxLen]; omega
  obtain ⟨v', w', hr, h2, h3, _⟩ := run_append_own (P := Try.prog) w base 23 23 25 i0 _ 4 56 Try.underlying23 hi hz0 hz1 hz2 rfl (by decide) v n xs hown ⟨b, o, none⟩ m c news hl hn2 h1 hmax (by omega) hbase
  refine ⟨v', w', hr, h2, h3, fun g hg => ?_⟩
  rcases hown.2 with ⟨rfl, rfl⟩ | ⟨g0, cap, cur, rfl, _, hgg, _, _, hcs, _⟩
  · obtain ⟨v2, w2, hr2, h22, _, _⟩ := run_append_own (P := Try.prog) w w.heap.size 23 23 25 i0 _ 4 56 Try.underlying23 hi hz0 hz1 hz2 rfl (by decide) (.slice none 0 0) 0 [] (World.ownsRow_nil _ _ _ _) ⟨b, o, none⟩ m c news hl hn2 h1 hmax (by omega) (Nat.le_refl _)
    have he := hr.symm.trans hr2
    simp only [Result.ok.injEq] at he
    rw [he.1] at hg
    exact Or.inr (h22.lt g hg).1
  · by_cases hroom : n + m ≤ cap
    · have hr2 := run_append_room (P := Try.prog) w 23 23 25 i0 Try.underlying23 hi g0 n cap cur hgg ⟨b, o, none⟩ m c news (by rw [hz1]; exact hl) hn2 h1 hroom (by rw [hz1, hl, hcs]; omega)
      have he := hr.symm.trans hr2
      simp only [Result.ok.injEq] at he
      rw [he.1] at hg
      exact Or.inl hg
    · have holds : ∀ j u, xs[j]? = some u → w.cell? ((⟨g0, 0, none⟩ : Addr).add j) = some u := hown.cells (g := g0) rfl
      have hr2 := run_append_grow (P := Try.prog) w 23 23 25 i0 _ Try.underlying23 hi hz0 ⟨g0, 0, none⟩ n cap xs (by rw [hz1]; exact hown.1) holds ⟨b, o, none⟩ m c news (by rw [hz1]; exact hl) hn2 (by omega) (by omega) (by rw [hz2]; exact growslice_fits (by omega) (by omega))
      have he := hr.symm.trans hr2
      simp only [Result.ok.injEq] at he
      rw [he.1] at hg
      simp only [Value.ownBlock, Option.some.injEq] at hg
      exact Or.inr (by omega)

theorem append_none (a : Option Addr) (c : Nat) (w : World) : (Builtin.append_ #[23, 23] 23 #[.slice none 0 0, .slice a 0 c]).run Try.prog w = .ok (.slice none 0 0) w := by
  obtain ⟨i0, hi, hz0, hz1, hz2⟩ := info_parts info25
  cases a <;> simp [Builtin.append_, run_underlying Try.underlying23, sizeOf, typeInfo, hi, Builtin.lenOf, Builtin.firstCells, loadCells, loadCellsFrom]

/-- An append whose run is known. -/
theorem wp_append_run {o : Oper} {a : Act} {K : Act → World → Prop} {Q : Exit → Act → World → Prop} {w w' : World} {v x v' : Value} (s y : Operand)
    (ho : o.op = .call { callee := .builtin .append, args := #[s, y], argTypes := #[23, 23] }) (ht : o.type = 23) (hs : a.eval s = v) (hx : a.eval y = x) (hr : (Builtin.append_ #[23, 23] 23 #[v, x]).run Try.prog w = .ok v' w')
    (h : K (a.put o.dst v') w') : o.wp Try.prog a w K Q := by
  unfold Oper.wp execOp
  simp only [ho, ht, resolve, invoke, builtin, Sem.run_bind, Sem.run_pure, Result.andThen_ok, List.map_toArray, List.map_cons, List.map_nil, hs, hx, hr]
  exact h
theorem wpList_append_run {ops : Array Oper} {rest : List Oper} {o : Oper} {a : Act} {Q : Exit → Act → World → Prop} {w w' : World} {v x v' : Value} (hgd : o.guard = none) (s y : Operand)
    (ho : o.op = .call { callee := .builtin .append, args := #[s, y], argTypes := #[23, 23] }) (ht : o.type = 23) (hs : a.eval s = v) (hx : a.eval y = x) (hr : (Builtin.append_ #[23, 23] 23 #[v, x]).run Try.prog w = .ok v' w')
    (h : wpList Try.prog ops Q rest (a.put o.dst v') w') : wpList Try.prog ops Q (o :: rest) a w :=
  wpList_plain hgd fun _ hK => wp_append_run s y ho ht hs hx hr (hK _ _ h)

/-- New blocks, but for a row's own. -/
def Away (B : Nat) (v : Value) (w : World) (b : Nat) : Prop := B ≤ b ∧ b < w.heap.size ∧ v.ownBlock ≠ some b

/-- The documents of the generator's row. -/
def Held (B : Nat) (v : Value) (ds : List Dc) (w : World) : Prop := ∃ xs, w.ownsRow B 25 4 v ds.length xs ∧ IsRow w (Away B v w) xs ds

theorem Held.nil (B : Nat) (w : World) : Held B (.slice none 0 0) [] w := ⟨[], World.ownsRow_nil _ _ _ _, IsRow.nil⟩
theorem Held.below {B : Nat} {v : Value} {ds : List Dc} {w w' : World} (h : Held B v ds w) (hb : Below w.heap.size w w') : Held B v ds w' := by
  obtain ⟨xs, h1, h2⟩ := h
  exact ⟨xs, own_below h1 hb, h2.keep fun b hb' => ⟨⟨hb'.1, Nat.lt_of_lt_of_le hb'.2.1 hb.size, hb'.2.2⟩, hb.block b hb'.2.1⟩⟩

/-- The first n of a row. -/
theorem own_take {w : World} {base N K : Nat} {xs : List Value} {g cap : Nat} (h : w.ownsRow base 25 4 (.slice (some ⟨g, 0, none⟩) (N + K) cap) (N + K) xs) : w.ownsRow base 25 4 (.slice (some ⟨g, 0, none⟩) N cap) N (xs.take (N * 4)) := by
  rcases h.2 with ⟨h', _⟩ | ⟨g', cap', cur, h', hb, hg, hnc, hcm, hcs, htake⟩
  · simp at h'
  simp only [Value.slice.injEq, Option.some.injEq, Addr.mk.injEq, and_true, true_and] at h'
  obtain ⟨rfl, rfl⟩ := h'
  refine ⟨by rw [List.length_take, h.1]; omega, .inr ⟨g, cap, cur, rfl, hb, hg, by omega, hcm, hcs, ?_⟩⟩
  rw [← htake, List.take_take, Nat.min_eq_left (by omega)]
theorem Held.take {B N K : Nat} {ds : List Dc} {w : World} {g cap : Nat} (h : Held B (.slice (some ⟨g, 0, none⟩) (N + K) cap) ds w) (hl : ds.length = N + K) : Held B (.slice (some ⟨g, 0, none⟩) N cap) (ds.take N) w := by
  obtain ⟨xs, h1, h2⟩ := h
  rw [hl] at h1
  refine ⟨xs.take (N * 4), ?_, h2.take N⟩
  rw [List.length_take, hl, Nat.min_eq_left (by omega)]
  exact own_take h1

/-- One document more: the row after 'append(l, d)'. -/
theorem Held.snoc {B : Nat} {v : Value} {ds : List Dc} {w : World} {d : Dc} {k n : Int} {s : ByteArray} {a : Option Addr} {m c : Nat} (h : Held B v ds w) (hd : IsDc w (Away B v w) d (.agg #[.int .i64 k, .string s, .int .i64 n, .slice a m c])) (hl : ds.length + 1 ≤ 1000000) (hB : B ≤ w.heap.size) :
    ∃ v' w', (Builtin.append_ #[23, 23] 23 #[v, .slice (some ⟨w.heap.size, 0, none⟩) 1 1]).run Try.prog (w.alloc (.cells #[.int .i64 k, .string s, .int .i64 n, .slice a m c] 25)) = .ok v' w' ∧ Held B v' (ds ++ [d]) w' ∧ Below B w w' := by
  obtain ⟨xs, h1, h2⟩ := h
  have hb := Blk.new w 25 #[.int .i64 k, .string s, .int .i64 n, .slice a m c]
  obtain ⟨v', w', hr, hown, hg, hblk⟩ := append_run (h1.alloc _) w.heap.size 0 1 1 [.int .i64 k, .string s, .int .i64 n, .slice a m c] rfl (fun j u hu => by rw [Nat.zero_add, hb.cell j]; simpa using hu) (by simp [Value.oneCell']) hl (by omega) (by simp; omega)
  have hsz := hg.size
  simp at hsz
  have hkeep : ∀ b, Away B v w b → Away B v' w' b ∧ w'.heap[b]? = w.heap[b]? := fun b hb' => by
    refine ⟨⟨hb'.1, by have := hb'.2.1; omega, fun e => ?_⟩, (hg.block b (by have := hb'.2.1; simp; omega) (fun e => hb'.2.2 e.symm)).trans (Below.heap_alloc w _ b hb'.2.1)⟩
    rcases hblk b e with h | h
    · exact hb'.2.2 h
    · have := hb'.2.1
      simp at h
      omega
  refine ⟨v', w', hr, ⟨xs ++ [.int .i64 k, .string s, .int .i64 n, .slice a m c], by rw [List.length_append]; exact hown, (h2.keep hkeep).append (IsRow.one (IsDc.keep hkeep _ _ hd))⟩, ?_⟩
  exact ((Below.refl B w).alloc hB _).grown hg (by simp; omega) (fun r hr => (h1.lt r hr).1)

/-- A document that was just made is away from the row. -/
theorem away_new {B : Nat} {v : Value} {ds : List Dc} {w w' : World} {d : Dc} {e : Ending} (h : Held B v ds w) (hB : B ≤ w.heap.size) (hp : DcPost w (Away B v w) d e w') :
    ∃ k s n a m c, e = .returned (.agg #[.int .i64 k, .string s, .int .i64 n, .slice a m c]) ∧ IsDc w' (Away B v w') d (.agg #[.int .i64 k, .string s, .int .i64 n, .slice a m c]) ∧ Below w.heap.size w w' := by
  obtain ⟨u, rfl, h1, h2⟩ := hp
  obtain ⟨k, s, n, a, m, c, rfl⟩ := h1.form
  obtain ⟨xs, h3, _⟩ := h
  refine ⟨k, s, n, a, m, c, rfl, IsDc.keep (fun b hb => ⟨?_, rfl⟩) _ _ h1, h2⟩
  rcases hb with hb | ⟨hb1, hb2⟩
  · exact ⟨hb.1, Nat.lt_of_lt_of_le hb.2.1 h2.size, hb.2.2⟩
  · exact ⟨by omega, hb2, fun e => by have := (h3.lt b e).2; omega⟩

/-- Some of the row's end, as Kids in a row of their own. -/
theorem Held.kids {B N K : Nat} {ds : List Dc} {w : World} {g cap : Nat} (h : Held B (.slice (some ⟨g, 0, none⟩) (N + K) cap) ds w) (hl : ds.length = N + K) (hK : 0 < K) (hmax : N + K ≤ 1000000) (hB : B ≤ w.heap.size) (c : Nat) :
    ∃ v' w', (Builtin.append_ #[23, 23] 23 #[.slice none 0 0, .slice (some ⟨g, N * 4, none⟩) K c]).run Try.prog w = .ok v' w' ∧ IsSl w' (Away B (.slice (some ⟨g, 0, none⟩) (N + K) cap) w') (ds.drop N) v' ∧ Below w.heap.size w w' := by
  obtain ⟨xs, h1, h2⟩ := h
  rw [hl] at h1
  have hdl : (ds.drop N).length = K := by rw [List.length_drop, hl]; omega
  have hd2 := h2.drop N
  have hcell : ∀ j u, (xs.drop (N * 4))[j]? = some u → w.cell? ⟨g, N * 4 + j, none⟩ = some u := fun j u hu => by
    rw [List.getElem?_drop] at hu
    have hj := (List.getElem?_eq_some_iff.1 hu).1
    rw [h1.1] at hj
    rw [h1.cellAt (N * 4 + j) hj, hu]
  obtain ⟨v', w', hr, hown, hg, hblk⟩ := append_run (World.ownsRow_nil w w.heap.size 25 4) g (N * 4) K c (xs.drop (N * 4)) (by rw [hd2.length, hdl]) hcell hd2.oneCell (by omega) hK (Nat.le_refl _)
  have hbel : Below w.heap.size w w' := (Below.refl _ w).grown hg (Nat.le_refl _) (fun r hr => by simp [Value.ownBlock] at hr)
  refine ⟨v', w', hr, ?_, hbel⟩
  rw [List.nil_append, Nat.zero_add, ← hdl] at hown
  refine IsSl.of_own hown (hd2.keep fun b hb => ⟨⟨hb.1, Nat.lt_of_lt_of_le hb.2.1 hbel.size, hb.2.2⟩, hbel.block b hb.2.1⟩) (fun g' e => ⟨?_, (hown.lt g' e).2, fun e' => ?_⟩)
  · have := (hown.lt g' e).1
    omega
  · simp only [Value.ownBlock, Option.some.injEq] at e'
    have h3 := (hown.lt g' e).1
    have h4 := (h1.lt g rfl).2
    omega

mutual
def totD : Dc → Nat
  | .mk _ s _ ks => s.size + 1 + totDs ks
def totDs : Dcs → Nat
  | .nil => 0
  | .cons d r => totD d + totDs r
end
def totL : List Dc → Nat
  | [] => 0
  | d :: r => totD d + totL r
theorem totDs_L : ∀ ks : Dcs, totDs ks = totL ks.toL
  | .nil => by rw [totDs, Dcs.toL, totL]
  | .cons d r => by rw [totDs, Dcs.toL, totL, totDs_L r]
theorem totL_append : ∀ a b : List Dc, totL (a ++ b) = totL a + totL b
  | [], b => by rw [List.nil_append, totL, Nat.zero_add]
  | d :: a, b => by rw [List.cons_append, totL, totL, totL_append a b, Nat.add_assoc]
theorem totL_split (ds : List Dc) (N : Nat) : totL (ds.take N) + totL (ds.drop N) = totL ds := by rw [← totL_append, List.take_append_drop]
theorem totL_filter (p : Dc → Bool) : ∀ ds : List Dc, totL (ds.filter p) ≤ totL ds
  | [] => Nat.le_refl _
  | d :: ds => by
    rw [List.filter_cons, totL]
    have := totL_filter p ds
    split
    · rw [totL]; omega
    · omega
theorem totD_row (ds : List Dc) : totD (rowD ds) ≤ totL ds + 1 := by
  have h := totL_filter Dc.full ds
  rw [rowD]
  generalize ds.filter Dc.full = l at h
  match l, h with
  | [], _ => simp [rowOf, totD, totDs]
  | [d], h => simp only [rowOf, totL] at h ⊢; omega
  | d :: d' :: r, h =>
    rw [rowOf, totD, totDs_L, Dcs.toL_ofL]
    · simp; omega
    · simp
    · intro d0 e; simp at e
mutual
theorem words_tot : ∀ d : Dc, (wordsD d).size ≤ totD d
  | .mk k s n ks => by
    have := wordss_tot ks
    rw [wordsD, totD, ByteArray.size_append]
    split
    · omega
    · simp; omega
theorem wordss_tot : ∀ ks : Dcs, (wordsDs ks).size ≤ totDs ks
  | .nil => by rw [wordsDs]; simp
  | .cons d r => by
    have h1 := words_tot d
    have h2 := wordss_tot r
    rw [wordsDs, totDs, ByteArray.size_append]
    omega
end
mutual
theorem flat_tot : ∀ d : Dc, (flatD d).size ≤ totD d
  | .mk k s n ks => by
    have h := flats_tot ks
    have h1 : (if k = 1 then s else if k = 2 then ⟨#[32]⟩ else ByteArray.empty : ByteArray).size ≤ s.size + 1 := by
      split
      · omega
      · split
        · show 1 ≤ _; omega
        · simp
    have h2 : (if 5 ≤ k ∧ k ≤ 7 then flatDs ks else ByteArray.empty : ByteArray).size ≤ totDs ks := by
      split
      · exact h
      · simp
    rw [flatD, totD, ByteArray.size_append]
    omega
theorem flats_tot : ∀ ks : Dcs, (flatDs ks).size ≤ totDs ks
  | .nil => by rw [flatDs]; simp
  | .cons d r => by
    have h1 := flat_tot d
    have h2 := flats_tot r
    rw [flatDs, totDs, ByteArray.size_append]
    omega
end
theorem lineD_len (x : Dc) : (lineD x).length ≤ totD x := by
  obtain ⟨k, s, n, ks⟩ := x
  rw [lineD, totD]
  split
  · simp; omega
  · have : s.size = s.data.toList.length := by simp
    simp only [Dc.text]; omega
theorem lineL_append (a b : List Dc) : lineL (a ++ b) = lineL a ++ lineL b := by simp [lineL]
theorem textsL_append (a b : List Dc) : textsL (a ++ b) = textsL a ++ textsL b := by simp [textsL]
mutual
theorem line_tot : ∀ d : Dc, (lineL (leavesD d)).length ≤ totD d
  | .mk k s n ks => by
    rw [leavesD]
    split
    · have := lineD_len (.mk k s n ks)
      simpa [lineL] using this
    · have := lines_tot ks
      rw [totD]; omega
theorem lines_tot : ∀ ks : Dcs, (lineL (leavesDs ks)).length ≤ totDs ks
  | .nil => by rw [leavesDs]; simp [lineL]
  | .cons d r => by
    have h1 := line_tot d
    have h2 := lines_tot r
    rw [leavesDs, totDs, lineL_append, List.length_append]
    omega
end
mutual
theorem texts_tot : ∀ d : Dc, (textsL (leavesD d)).length ≤ totD d
  | .mk k s n ks => by
    rw [leavesD]
    split
    · rw [totD]
      have : s.size = s.data.toList.length := by simp
      simp [textsL, Dc.text]; omega
    · have := textss_tot ks
      rw [totD]; omega
theorem textss_tot : ∀ ks : Dcs, (textsL (leavesDs ks)).length ≤ totDs ks
  | .nil => by rw [leavesDs]; simp [textsL]
  | .cons d r => by
    have h1 := texts_tot d
    have h2 := textss_tot r
    rw [leavesDs, totDs, textsL_append, List.length_append]
    omega
end
end Go.Proofs.Ytggbocimapdidaa
