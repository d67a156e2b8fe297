/-
  The reference's Row: some documents, one behind the other.
  Its conditions: the slice reads as documents, of which there are at most 1000000.
-/
import Derived.Test.YtggbocimapdidaaLists
namespace Go.Proofs.Ytggbocimapdidaa
open Go.RowKit

def Dc.full (d : Dc) : Bool := !decide (d.kind = 0)
/-- What Row makes of some documents. -/
def rowOf : List Dc → Dc
  | [] => .mk 0 ByteArray.empty 0 .nil
  | [d] => d
  | ks => .mk 7 ByteArray.empty 0 (Dcs.ofL ks)
def rowD (ds : List Dc) : Dc := rowOf (ds.filter Dc.full)

theorem info25 : (Try.prog.info? 25).map (fun i => (i.zero, i.size, i.bytes)) = some (some (.agg #[.int .i64 0, .string ByteArray.empty, .int .i64 0, .slice none 0 0]), 4, 56) := by kernel_rfl

theorem take_filter_yes {ds : List Dc} {q : Nat} (h : q < ds.length) (hf : ds[q].full = true) : (ds.take (q + 1)).filter Dc.full = (ds.take q).filter Dc.full ++ [ds[q]] := by
  rw [List.take_succ_eq_append_getElem h, List.filter_append]
  simp [hf]
theorem take_filter_no {ds : List Dc} {q : Nat} (h : q < ds.length) (hf : ds[q].full = false) : (ds.take (q + 1)).filter Dc.full = (ds.take q).filter Dc.full := by
  rw [List.take_succ_eq_append_getElem h, List.filter_append]
  simp [hf]
theorem IsSl.get {w : World} {F : Nat → Prop} {ds : List Dc} {a : Option Addr} {n cap : Nat} (h : IsSl w F ds (.slice a n cap)) : n = ds.length ∧ ds.length ≤ maxLen ∧ (ds.length ≠ 0 → ∃ b o, a = some ⟨b, o, none⟩ ∧ F b ∧ IsDcs w F b o (Dcs.ofL ds)) := by
  obtain ⟨a', cap', hv, hl, hk⟩ := h
  simp only [Value.slice.injEq] at hv
  obtain ⟨rfl, rfl, rfl⟩ := hv
  exact ⟨rfl, hl, hk⟩
theorem cell_four_new (w : World) (x y z u : Value) (t : TypeId) : ∀ (j : Nat) (c : Value), [x, y, z, u][j]? = some c → (w.alloc (.cells #[x, y, z, u] t)).cell? ((⟨w.heap.size, 0, none⟩ : Addr).add j) = some c := by
  intro j c h
  have hb := Blk.new w t #[x, y, z, u]
  match j, h with
  | 0, h => exact (hb.cell 0).trans (by simpa using h)
  | 1, h => exact (hb.cell 1).trans (by simpa using h)
  | 2, h => exact (hb.cell 2).trans (by simpa using h)
  | 3, h => exact (hb.cell 3).trans (by simpa using h)

/-- A document's four cells are stored. -/
def put4 (w : World) (g : Nat) (x y z u : Value) : World := (((w.setCell ⟨g, 0, none⟩ x).setCell ⟨g, 1, none⟩ y).setCell ⟨g, 2, none⟩ z).setCell ⟨g, 3, none⟩ u
theorem Blk.put4_ {w : World} {g : Nat} {t : TypeId} {x y z u : Value} (h : Blk w g t #[x, y, z, u]) (x' y' z' u' : Value) : Blk (put4 w g x' y' z' u') g t #[x', y', z', u'] := (((h.set_ 0 x').set_ 1 y').set_ 2 z').set_ 3 u'
theorem below_put4 {B : Nat} {w W : World} (h : Below B w W) {g : Nat} (hg : B ≤ g) (x y z u : Value) : Below B w (put4 W g x y z u) :=
  (((h.setCell (p := ⟨g, 0, none⟩) hg x).setCell (p := ⟨g, 1, none⟩) hg y).setCell (p := ⟨g, 2, none⟩) hg z).setCell (p := ⟨g, 3, none⟩) hg u
theorem heap_put4 (w : World) {g b : Nat} (h : b ≠ g) (x y z u : Value) : (put4 w g x y z u).heap[b]? = w.heap[b]? :=
  (Below.heap_setCell _ ⟨g, 3, none⟩ u b h).trans ((Below.heap_setCell _ ⟨g, 2, none⟩ z b h).trans ((Below.heap_setCell _ ⟨g, 1, none⟩ y b h).trans (Below.heap_setCell _ ⟨g, 0, none⟩ x b h)))
theorem own_heap {w w' : World} {base size n : Nat} {e : TypeId} {v : Value} {xs : List Value} (h : w.ownsRow base e size v n xs) (hh : ∀ b, base ≤ b → w'.heap[b]? = w.heap[b]?) : w'.ownsRow base e size v n xs := by
  refine ⟨h.1, ?_⟩
  rcases h.2 with hn | ⟨g, cap, cur, hv, hb, hgg, rest⟩
  · exact .inl hn
  · exact .inr ⟨g, cap, cur, hv, hb, (hh g hb).trans hgg, rest⟩
theorem size_put4 (w : World) (g : Nat) (x y z u : Value) : (put4 w g x y z u).heap.size = w.heap.size := by simp [put4]

set_option maxHeartbeats 2000000 in
theorem refRow_any (F : Nat → Prop) (ds : List Dc) (v : Value) (w : World) (hF : ∀ b, F b → b < w.heap.size) (h : IsSl w F ds v) (hlen : ds.length ≤ 1000000) : Calls Try.prog 24 #[v] w (DcPost w F (rowD ds)) := by
  obtain ⟨a, cap, rfl, hl, hk⟩ := h
  simp only [maxLen] at hl
  obtain ⟨i0, hi, hz0, hz1, hz2⟩ := info_parts info25
  obtain ⟨W, hW⟩ : ∃ W, w.alloc (.cells #[.int .i64 0, .string ⟨#[]⟩, .int .i64 0, .slice none 0 0] 25) = W := ⟨_, rfl⟩
  have bW : Blk W w.heap.size 25 #[.int .i64 0, .string ⟨#[]⟩, .int .i64 0, .slice none 0 0] := hW ▸ Blk.new w 25 _
  have hzW : W.heap.size = w.heap.size + 1 := by rw [← hW]; simp
  have hbW : Below w.heap.size w W := hW ▸ (Below.refl _ w).alloc (Nat.le_refl _) _
  have HZ := hide hzW
  clear hzW
  go_enter Try.func24, Try.ntmps24
  go_wp2_with fail
  clear hW
  go_loopw [3, 4] (fun out i wr => ∃ (q : Nat) (acc : List Dc) (xs : List Value), q ≤ ds.length ∧ i = .int .i64 q ∧ wr.ownsRow W.heap.size 25 4 out acc.length xs ∧ IsRow w F xs acc ∧ Below W.heap.size W wr ∧ acc.length ≤ q ∧ acc = (ds.take q).filter Dc.full) (fun _ i _ => ds.length - (intOf i).toNat)
  case atStart => exact ⟨0, [], [], Nat.zero_le _, rfl, World.ownsRow_nil _ _ _ _, IsRow.nil, Below.refl _ _, Nat.le_refl _, rfl⟩
  case round =>
    obtain ⟨q, acc, xs, hq, rfl, hown, hrow, hb, hal, hacc⟩ := hrel
    have HA := hide hacc
    clear hacc
    by_cases hlt : q < ds.length
    · obtain ⟨b, o, rfl, hFb, hkk⟩ := hk (by omega)
      obtain ⟨c0, c1, c2, c3, g0, g1, g2, g3, hc⟩ := hkk.get (k := q) (d := ds[q]) (by rw [Dcs.toL_ofL]; exact List.getElem?_eq_getElem hlt)
      have hw : ∀ i, wr.cell? ⟨b, i, none⟩ = w.cell? ⟨b, i, none⟩ := fun i => (hb.cell (p := ⟨b, i, none⟩) (by have := hF b hFb; have := HZ.out; show b < _; omega)).trans (hbW.cell (p := ⟨b, i, none⟩) (hF b hFb))
      rw [← hw] at g0 g1 g2 g3
      have hcx := hc
      have hyes := take_filter_yes hlt
      have hno := take_filter_no hlt
      obtain ⟨d, hd⟩ : ∃ d, ds[q] = d := ⟨_, rfl⟩
      rw [hd] at hc hcx hyes hno
      clear hd
      obtain ⟨k, s, n, ks⟩ := d
      rw [IsDc] at hc
      obtain ⟨a', cap', hv, -⟩ := hc
      simp only [Value.agg.injEq, Array.mk.injEq, List.cons.injEq, and_true] at hv
      obtain ⟨rfl, rfl, rfl, rfl⟩ := hv
      by_cases hk0 : k = 0
      · subst hk0
        have HN := hide (hno rfl)
        clear hyes hno hw
        go_wp2_with fail
        go_roundw
        case rel => exact ⟨q + 1, acc, xs, by omega, by go_num, hown, hrow, hb, by omega, by rw [HN.out]; exact HA.out⟩
        case measure => simp [intOf]; omega
      · have hk1 : (k == 0) = false := beq_eq_false_iff_ne.2 hk0
        have HY := hide (hyes (by simp [Dc.full, Dc.kind, hk0]))
        clear hyes hno hw hk0
        go_wp2_with (at_builtin; refine wpList_append_own _ rfl (.tmp 17) (.tmp 22) 23 rfl W.heap.size 25 i0 _ 4 56 Try.underlying23 hi hz0 hz1 hz2 rfl (by decide) _ acc.length _ rfl (hown.alloc _) ⟨wr.heap.size, 0, none⟩ 1 1 _ rfl rfl (cell_four_new _ _ _ _ _ _) ?c2 ?c3 ?c4 ?c5 ?_)
        case c2 => simp [Value.oneCell']
        case c3 => simp only [maxLen]; omega
        case c4 => omega
        case c5 => have := hb.size; simp; omega
        intro v' w1 hown' hgrow _
        have hz := hb.size
        have hb1 : Below W.heap.size W w1 := (hb.alloc hz _).grown hgrow (by simp; omega) (fun r hr => (hown.lt r hr).1)
        have hrow1 := hrow.append (IsRow.one hcx)
        clear hown hgrow hb g0 g1 g2 g3 hrow
        go_wp2_with fail
        go_roundw
        case rel => exact ⟨q + 1, acc ++ [.mk k s n ks], xs ++ [.int .i64 k, .string s, .int .i64 n, .slice a' ks.len cap'], by omega, by go_num, (by rw [List.length_append]; exact hown'), hrow1, hb1, by simp; omega, by rw [HY.out, ← HA.out]⟩
        case measure => simp [intOf]; omega
    · have hfin : acc = ds.filter Dc.full := by rw [HA.out, List.take_of_length_le (by omega)]
      have HD := hide (show rowD ds = rowOf acc by rw [rowD, hfin])
      clear hfin hal HA
      have bR := bW.below hb bW.lt
      have HB := hide bR
      have HO := hide hown
      obtain ⟨b0, b1, b2, b3⟩ := bR.four
      have hf := bR.frozen
      have hlen4 := hrow.length
      have hkeep : ∀ (x y z u : Value) (b : Nat), F b → (F b ∨ (w.heap.size ≤ b ∧ b < (put4 wr w.heap.size x y z u).heap.size)) ∧ (put4 wr w.heap.size x y z u).heap[b]? = w.heap[b]? := fun x y z u b hb' => by
        have h1 := hF b hb'
        have h2 := HZ.out
        exact ⟨Or.inl hb', (heap_put4 _ (by omega) _ _ _ _).trans ((hb.block b (by omega)).trans (hbW.block b h1))⟩
      have hBp : ∀ x y z u : Value, Below w.heap.size w (put4 wr w.heap.size x y z u) := fun x y z u => below_put4 (hbW.trans (hb.mono (by have := HZ.out; omega))) (Nat.le_refl _) _ _ _ _
      have HK := hide hkeep
      have HP := hide hBp
      clear hkeep hBp bR
      cases acc with
      | nil =>
        obtain ⟨a1, c1, rfl⟩ := own_form hown
        clear hown
        rw [List.length_nil] at HO ⊢
        go_wp2_with fail
        refine made (g := w.heap.size) rfl rfl (HB.out.put4_ _ _ _ _) rfl ?_ (HP.out _ _ _ _)
        rw [HD.out]
        exact IsDc.leaf (by omega) (by omega) (by decide)
      | cons d r =>
        obtain ⟨c0, c1, c2, c3, ys, rfl, hd, hr⟩ := hrow.out
        rcases hown.2 with ⟨_, hn⟩ | ⟨g, c9, cur, rfl, hg, hgg, hnc, hcm, _⟩
        · simp at hn
        obtain ⟨k, s, n, a', m', cap', hv⟩ := hd.form
        simp only [Value.agg.injEq, Array.mk.injEq, List.cons.injEq, and_true] at hv
        obtain ⟨rfl, rfl, rfl, rfl⟩ := hv
        have hc := hown.cellAt
        have x0 : wr.cell? ⟨g, 0, none⟩ = some (.int .i64 k) := hc 0 (by simp)
        have x1 : wr.cell? ⟨g, 1, none⟩ = some (.string s) := hc 1 (by simp; omega)
        have x2 : wr.cell? ⟨g, 2, none⟩ = some (.int .i64 n) := hc 2 (by simp; omega)
        have x3 : wr.cell? ⟨g, 3, none⟩ = some (.slice a' m' cap') := hc 3 (by simp; omega)
        clear hc hgg
        cases r with
        | nil =>
          clear hown
          rw [List.length_cons, List.length_nil] at HO hnc ⊢
          go_wp2_with fail
          refine made (g := w.heap.size) rfl rfl (HB.out.put4_ _ _ _ _) rfl ?_ (HP.out _ _ _ _)
          rw [HD.out]
          exact IsDc.keep (HK.out _ _ _ _) _ _ hd
        | cons d' r' =>
          have e0 : (((d :: d' :: r').length : Int) == 0) = false := beq_eq_false_iff_ne.2 (by simp; omega)
          have e1 : (((d :: d' :: r').length : Int) == 1) = false := beq_eq_false_iff_ne.2 (by simp; omega)
          obtain ⟨m, hm⟩ : ∃ m, (d :: d' :: r').length = m := ⟨_, rfl⟩
          rw [hm] at e0 e1 HO hnc ⊢
          have HM := hide hm
          clear hown hm
          go_wp2_with fail
          refine made (g := w.heap.size) rfl rfl (HB.out.put4_ _ _ _ _) rfl ?_ (HP.out _ _ _ _)
          rw [HD.out]
          refine IsDc.join (by omega) (by omega) (by decide) ?_
          have hO := HO.out
          rw [← HM.out] at hO ⊢
          have hZ := HZ.out
          refine IsSl.of_own (base := W.heap.size) (own_heap hO (fun b hb' => heap_put4 _ (by omega) _ _ _ _)) (IsRow.keep (HK.out _ _ _ _) hrow) (fun g' e => ?_)
          obtain rfl : g = g' := by simpa [Value.ownBlock] using e
          exact Or.inr ⟨by omega, by have := (hO.lt g rfl).2; exact (show g < (put4 wr w.heap.size _ _ _ _).heap.size from by rw [size_put4]; exact this)⟩
end Go.Proofs.Ytggbocimapdidaa
