/-
  The program's Row.
  Its conditions: the slice reads as documents, of which there are at most 1000000; where there is none it is nil.
-/
import Derived.Test.YtggbocimapdidaaRowP
namespace Go.Proofs.Ytggbocimapdidaa
open Go.RowKit

theorem clone_all (F : Nat → Prop) (ds : List Dc) (v : Value) (w : World) (hF : ∀ b, F b → b < w.heap.size) (h : InSl w F ds v) (hlen : ds.length ≤ 1000000) (hn : ds.length = 0 → v = .slice none 0 0) : Calls Try.prog 32 #[v] w (OwnPost w F ds) := by
  by_cases h0 : ds.length = 0
  · rw [hn h0, List.eq_nil_of_length_eq_zero h0]
    exact clone_nil F w
  · exact clone_any F ds v w hF h hlen h0

set_option maxHeartbeats 2000000 in
theorem row_any (F : Nat → Prop) (ds : List Dc) (v : Value) (w : World) (hF : ∀ b, F b → b < w.heap.size) (h : InSl w F ds v) (hlen : ds.length ≤ 1000000) (hn : ds.length = 0 → v = .slice none 0 0) : Calls Try.prog 16 #[v] w (DcPost w F (rowD ds)) := by
  obtain ⟨W, hW⟩ : ∃ W, w.alloc (.cells #[.int .i64 0, .string ⟨#[]⟩, .int .i64 0, .slice none 0 0] 25) = W := ⟨_, rfl⟩
  have bW : Blk W w.heap.size 25 #[.int .i64 0, .string ⟨#[]⟩, .int .i64 0, .slice none 0 0] := hW ▸ Blk.new w 25 _
  have HZ := hide (show W.heap.size = w.heap.size + 1 by rw [← hW]; simp)
  have hbW : Below w.heap.size w W := hW ▸ (Below.refl _ w).alloc (Nat.le_refl _) _
  have hFW : ∀ b, F b → b < W.heap.size := fun b hb => Nat.lt_of_lt_of_le (hF b hb) hbW.size
  have HC := hide (clone_all F ds v W hFW (h.below hF hbW) hlen hn)
  have hl : (ds.filter Dc.full).length ≤ 1000000 := Nat.le_trans (List.length_filter_le _ _) hlen
  have HD := hide (show rowD ds = rowOf (ds.filter Dc.full) from rfl)
  clear h hn
  go_enter Try.func16, Try.ntmps16
  go_wp2_with fail
  refine (unhide HC).mono ?_
  rintro e w1 ⟨v1, rfl, hown1, hb1⟩
  have HDel := hide (delete_any F W.heap.size ds v1 w1 hFW hb1.size hown1 hlen)
  clear hown1 hW
  go_wp2_with fail
  refine (unhide HDel).mono ?_
  rintro e w2 ⟨v2, rfl, ⟨xs, hown, hrow⟩, hb2⟩
  have hb : Below W.heap.size W w2 := hb1.trans hb2
  have HB := hide (bW.below hb bW.lt)
  obtain ⟨b0, b1, b2, b3⟩ := HB.out.four
  have hf := HB.out.frozen
  have HK := hide (show ∀ (x y z u : Value) (b : Nat), F b → (F b ∨ (w.heap.size ≤ b ∧ b < (put4 w2 w.heap.size x y z u).heap.size)) ∧ (put4 w2 w.heap.size x y z u).heap[b]? = w2.heap[b]? from fun x y z u b hb' => ⟨Or.inl hb', heap_put4 _ (by have := hF b hb'; omega) _ _ _ _⟩)
  have HP := hide (show ∀ x y z u : Value, Below w.heap.size w (put4 w2 w.heap.size x y z u) from fun x y z u => below_put4 (hbW.trans (hb.mono hbW.size)) (Nat.le_refl _) _ _ _ _)
  have HO := hide hown
  clear hlen bW hb1 hb2
  generalize ds.filter Dc.full = acc at *
  cases acc with
  | nil =>
    obtain ⟨a1, c1, rfl⟩ := own_form hown
    clear hown
    rw [List.length_nil] at HO ⊢
    go_wp2_with fail
    refine made (g := w.heap.size) rfl rfl (HB.out.put4_ _ _ _ _) rfl ?_ (HP.out _ _ _ _)
    rw [HD.out]
    exact IsDc.leaf (by omega) (by omega) (by decide)
  | cons d r =>
    obtain ⟨c0, c1, c2, c3, ys, rfl, hd, hr⟩ := hrow.out
    rcases hown.2 with ⟨_, hn⟩ | ⟨g, c9, cur, rfl, hg, hgg, hnc, hcm, _⟩
    · simp at hn
    obtain ⟨k, s, n, a', m', cap', hv⟩ := hd.form
    simp only [Value.agg.injEq, Array.mk.injEq, List.cons.injEq, and_true] at hv
    obtain ⟨rfl, rfl, rfl, rfl⟩ := hv
    have hc := hown.cellAt
    have x0 : w2.cell? ⟨g, 0, none⟩ = some (.int .i64 k) := hc 0 (by simp)
    have x1 : w2.cell? ⟨g, 1, none⟩ = some (.string s) := hc 1 (by simp; omega)
    have x2 : w2.cell? ⟨g, 2, none⟩ = some (.int .i64 n) := hc 2 (by simp; omega)
    have x3 : w2.cell? ⟨g, 3, none⟩ = some (.slice a' m' cap') := hc 3 (by simp; omega)
    clear hc hgg
    cases r with
    | nil =>
      clear hown
      rw [List.length_cons, List.length_nil] at HO hnc ⊢
      go_wp2_with fail
      refine made (g := w.heap.size) rfl rfl (HB.out.put4_ _ _ _ _) rfl ?_ (HP.out _ _ _ _)
      rw [HD.out]
      exact IsDc.keep (HK.out _ _ _ _) _ _ hd
    | cons d' r' =>
      have e0 : (((d :: d' :: r').length : Int) == 0) = false := beq_eq_false_iff_ne.2 (by simp; omega)
      have e1 : (((d :: d' :: r').length : Int) == 1) = false := beq_eq_false_iff_ne.2 (by simp; omega)
      obtain ⟨m, hm⟩ : ∃ m, (d :: d' :: r').length = m := ⟨_, rfl⟩
      rw [hm] at e0 e1 HO hnc hl ⊢
      have HM := hide hm
      clear hown hm
      go_wp2_with fail
      refine made (g := w.heap.size) rfl rfl (HB.out.put4_ _ _ _ _) rfl ?_ (HP.out _ _ _ _)
      rw [HD.out]
      refine IsDc.join (by omega) (by omega) (by decide) ?_
      have hO := HO.out
      rw [← HM.out] at hO ⊢
      have hZ := HZ.out
      refine IsSl.of_own (base := W.heap.size) (own_heap hO (fun b hb' => heap_put4 _ (by omega) _ _ _ _)) (IsRow.keep (HK.out _ _ _ _) hrow) (fun g' e => ?_)
      obtain rfl : g = g' := by simpa [Value.ownBlock] using e
      exact Or.inr ⟨by omega, by have := (hO.lt g rfl).2; exact (show g < (put4 w2 w.heap.size _ _ _ _).heap.size from by rw [size_put4]; exact this)⟩
end Go.Proofs.Ytggbocimapdidaa
