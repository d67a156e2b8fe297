/-
  The makers of documents: Say, In, Fit, of the program and of the reference; the reference's Flat.
  Their conditions: the value reads as a document; the numbers fit their kinds.
-/
import Derived.Test.YtggbocimapdidaaFlat
import Derived.Laws.Rows
namespace Go.Proofs.Ytggbocimapdidaa
open Go.RowKit

/-- The call hands back a document; its Kids lie in blocks of F, or in new ones; what was there is as it was. -/
def DcPost (w : World) (F : Nat → Prop) (d : Dc) (e : Ending) (w' : World) : Prop :=
  ∃ v, e = .returned v ∧ IsDc w' (fun b => F b ∨ (w.heap.size ≤ b ∧ b < w'.heap.size)) d v ∧ Below w.heap.size w w'

def sayD (s : ByteArray) : Dc := if s = ByteArray.empty then .mk 0 ByteArray.empty 0 .nil else .mk 1 s 0 .nil
def inD (n : Int) (d : Dc) : Dc := .mk 5 ByteArray.empty n (.cons d .nil)
def fitD (d : Dc) : Dc := .mk 6 ByteArray.empty 0 (.cons d .nil)

theorem IsDc.leaf {w : World} {F : Nat → Prop} {k : Int} {s : ByteArray} {n : Int} {cap : Nat} (hk : -9223372036854775808 ≤ k ∧ k ≤ 9223372036854775807) (hn : -9223372036854775808 ≤ n ∧ n ≤ 9223372036854775807) (hs : s.size ≤ maxLen) : IsDc w F (.mk k s n .nil) (.agg #[.int .i64 k, .string s, .int .i64 n, .slice none 0 cap]) := by
  rw [IsDc]
  exact ⟨none, cap, rfl, hk, hn, hs, Nat.zero_le _, fun h => absurd rfl h⟩

theorem IsDc.form {w : World} {F : Nat → Prop} : ∀ {d : Dc} {v : Value}, IsDc w F d v → ∃ k s n a m cap, v = .agg #[.int .i64 k, .string s, .int .i64 n, .slice a m cap]
  | .mk k s n ks, v, h => by
    rw [IsDc] at h
    obtain ⟨a, cap, rfl, _⟩ := h
    exact ⟨k, s, n, a, _, cap, rfl⟩

/-- One Kid, in a block of its own. -/
theorem IsDc.one {w : World} {F : Nat → Prop} {g : Nat} {k : Int} {n : Int} {d : Dc} {c0 c1 c2 c3 : Value} (hb : Blk w g 25 #[c0, c1, c2, c3]) (hg : F g) (h : IsDc w F d (.agg #[c0, c1, c2, c3])) (hk : -9223372036854775808 ≤ k ∧ k ≤ 9223372036854775807) (hn : -9223372036854775808 ≤ n ∧ n ≤ 9223372036854775807) :
    IsDc w F (.mk k ByteArray.empty n (.cons d .nil)) (.agg #[.int .i64 k, .string ByteArray.empty, .int .i64 n, .slice (some ⟨g, 0, none⟩) 1 1]) := by
  rw [IsDc]
  refine ⟨some ⟨g, 0, none⟩, 1, rfl, hk, hn, by decide, by show 1 ≤ maxLen; decide, fun _ => ⟨g, 0, rfl, hg, ?_⟩⟩
  rw [IsDcs, IsDcs]
  exact ⟨⟨c0, c1, c2, c3, hb.cell 0, hb.cell 1, hb.cell 2, hb.cell 3, h⟩, trivial⟩

/-- The end of a maker: the result's cells lie in block g of W. -/
theorem made {fn : Func} {p : Tmp} {tmps : Array Value} {W w : World} {F : Nat → Prop} {d : Dc} {g : Nat} {cs : Array Value} (hr : fn.results = #[.cell p 25]) (hp : tmps.getD p undef = .pointer (some ⟨g, 0, none⟩)) (hb : Blk W g 25 cs) (hs : cs.size = 4)
    (hd : IsDc W (fun b => F b ∨ (w.heap.size ≤ b ∧ b < W.heap.size)) d (.agg cs)) (hB : Below w.heap.size w W) : bodyPost Try.prog fn (DcPost w F d) .ret { tmps := tmps, defers := [] } W :=
  bodyPost_ret (results_cell_row hr tmps W g 25 cs (0, 0) _ hp hb Try.underlying25 rfl (by rw [hs]; kernel_rfl)) rfl ⟨_, rfl, hd, hB⟩

theorem fit_any (F : Nat → Prop) (d : Dc) (v : Value) (w : World) (hF : ∀ b, F b → b < w.heap.size) (h : IsDc w F d v) : Calls Try.prog 19 #[v] w (DcPost w F (fitD d)) := by
  obtain ⟨k, s, n, a, m, cap, rfl⟩ := h.form
  go_enter Try.func19, Try.ntmps19
  go_wp2_with fail
  have g2 : Blk (((w.alloc (.cells #[.int .i64 k, .string s, .int .i64 n, .slice a m cap] 25)).alloc (.cells #[.int .i64 6, .string ⟨#[]⟩, .int .i64 0, .slice (some ⟨w.heap.size + 1 + 1, 0, none⟩) 1 1] 25)).alloc (.cells #[.int .i64 k, .string s, .int .i64 n, .slice a m cap] 25)) (w.heap.size + 1) 25 #[.int .i64 6, .string ⟨#[]⟩, .int .i64 0, .slice (some ⟨w.heap.size + 1 + 1, 0, none⟩) 1 1] := by
    have := (Blk.new (w.alloc (.cells #[.int .i64 k, .string s, .int .i64 n, .slice a m cap] 25)) 25 #[.int .i64 6, .string ⟨#[]⟩, .int .i64 0, .slice (some ⟨w.heap.size + 1 + 1, 0, none⟩) 1 1]).alloc (.cells #[.int .i64 k, .string s, .int .i64 n, .slice a m cap] 25)
    rw [World.size_alloc] at this
    exact this
  have g3 : Blk (((w.alloc (.cells #[.int .i64 k, .string s, .int .i64 n, .slice a m cap] 25)).alloc (.cells #[.int .i64 6, .string ⟨#[]⟩, .int .i64 0, .slice (some ⟨w.heap.size + 1 + 1, 0, none⟩) 1 1] 25)).alloc (.cells #[.int .i64 k, .string s, .int .i64 n, .slice a m cap] 25)) (w.heap.size + 1 + 1) 25 #[.int .i64 k, .string s, .int .i64 n, .slice a m cap] := by
    have := Blk.new ((w.alloc (.cells #[.int .i64 k, .string s, .int .i64 n, .slice a m cap] 25)).alloc (.cells #[.int .i64 6, .string ⟨#[]⟩, .int .i64 0, .slice (some ⟨w.heap.size + 1 + 1, 0, none⟩) 1 1] 25)) 25 #[.int .i64 k, .string s, .int .i64 n, .slice a m cap]
    rw [World.size_alloc, World.size_alloc] at this
    exact this
  have hB := (((Below.refl _ w).alloc (Nat.le_refl _) (.cells #[.int .i64 k, .string s, .int .i64 n, .slice a m cap] 25)).alloc (by simp) (.cells #[.int .i64 6, .string ⟨#[]⟩, .int .i64 0, .slice (some ⟨w.heap.size + 1 + 1, 0, none⟩) 1 1] 25)).alloc (by simp; omega) (.cells #[.int .i64 k, .string s, .int .i64 n, .slice a m cap] 25)
  refine made (g := w.heap.size + 1) rfl rfl g2 rfl ?_ hB
  exact IsDc.one g3 (Or.inr ⟨by omega, by simp⟩) (IsDc.keep (fun b hb => ⟨Or.inl hb, hB.block b (hF b hb)⟩) _ _ h) (by omega) (by omega)

theorem refFit_any (F : Nat → Prop) (d : Dc) (v : Value) (w : World) (hF : ∀ b, F b → b < w.heap.size) (h : IsDc w F d v) : Calls Try.prog 23 #[v] w (DcPost w F (fitD d)) := by
  obtain ⟨k, s, n, a, m, cap, rfl⟩ := h.form
  go_enter Try.func23, Try.ntmps23
  go_wp2_with fail
  have g2 : Blk (((w.alloc (.cells #[.int .i64 k, .string s, .int .i64 n, .slice a m cap] 25)).alloc (.cells #[.int .i64 6, .string ⟨#[]⟩, .int .i64 0, .slice (some ⟨w.heap.size + 1 + 1, 0, none⟩) 1 1] 25)).alloc (.cells #[.int .i64 k, .string s, .int .i64 n, .slice a m cap] 25)) (w.heap.size + 1) 25 #[.int .i64 6, .string ⟨#[]⟩, .int .i64 0, .slice (some ⟨w.heap.size + 1 + 1, 0, none⟩) 1 1] := by
    have := (Blk.new (w.alloc (.cells #[.int .i64 k, .string s, .int .i64 n, .slice a m cap] 25)) 25 #[.int .i64 6, .string ⟨#[]⟩, .int .i64 0, .slice (some ⟨w.heap.size + 1 + 1, 0, none⟩) 1 1]).alloc (.cells #[.int .i64 k, .string s, .int .i64 n, .slice a m cap] 25)
    rw [World.size_alloc] at this
    exact this
  have g3 : Blk (((w.alloc (.cells #[.int .i64 k, .string s, .int .i64 n, .slice a m cap] 25)).alloc (.cells #[.int .i64 6, .string ⟨#[]⟩, .int .i64 0, .slice (some ⟨w.heap.size + 1 + 1, 0, none⟩) 1 1] 25)).alloc (.cells #[.int .i64 k, .string s, .int .i64 n, .slice a m cap] 25)) (w.heap.size + 1 + 1) 25 #[.int .i64 k, .string s, .int .i64 n, .slice a m cap] := by
    have := Blk.new ((w.alloc (.cells #[.int .i64 k, .string s, .int .i64 n, .slice a m cap] 25)).alloc (.cells #[.int .i64 6, .string ⟨#[]⟩, .int .i64 0, .slice (some ⟨w.heap.size + 1 + 1, 0, none⟩) 1 1] 25)) 25 #[.int .i64 k, .string s, .int .i64 n, .slice a m cap]
    rw [World.size_alloc, World.size_alloc] at this
    exact this
  have hB := (((Below.refl _ w).alloc (Nat.le_refl _) (.cells #[.int .i64 k, .string s, .int .i64 n, .slice a m cap] 25)).alloc (by simp) (.cells #[.int .i64 6, .string ⟨#[]⟩, .int .i64 0, .slice (some ⟨w.heap.size + 1 + 1, 0, none⟩) 1 1] 25)).alloc (by simp; omega) (.cells #[.int .i64 k, .string s, .int .i64 n, .slice a m cap] 25)
  refine made (g := w.heap.size + 1) rfl rfl g2 rfl ?_ hB
  exact IsDc.one g3 (Or.inr ⟨by omega, by simp⟩) (IsDc.keep (fun b hb => ⟨Or.inl hb, hB.block b (hF b hb)⟩) _ _ h) (by omega) (by omega)

theorem in_any (F : Nat → Prop) (d : Dc) (v : Value) (x : Int) (hx : -9223372036854775808 ≤ x ∧ x ≤ 9223372036854775807) (w : World) (hF : ∀ b, F b → b < w.heap.size) (h : IsDc w F d v) : Calls Try.prog 20 #[.int .i64 x, v] w (DcPost w F (inD x d)) := by
  obtain ⟨k, s, n, a, m, cap, rfl⟩ := h.form
  go_enter Try.func20, Try.ntmps20
  go_wp2_with fail
  have g2 : Blk (((w.alloc (.cells #[.int .i64 k, .string s, .int .i64 n, .slice a m cap] 25)).alloc (.cells #[.int .i64 5, .string ⟨#[]⟩, .int .i64 x, .slice (some ⟨w.heap.size + 1 + 1, 0, none⟩) 1 1] 25)).alloc (.cells #[.int .i64 k, .string s, .int .i64 n, .slice a m cap] 25)) (w.heap.size + 1) 25 #[.int .i64 5, .string ⟨#[]⟩, .int .i64 x, .slice (some ⟨w.heap.size + 1 + 1, 0, none⟩) 1 1] := by
    have := (Blk.new (w.alloc (.cells #[.int .i64 k, .string s, .int .i64 n, .slice a m cap] 25)) 25 #[.int .i64 5, .string ⟨#[]⟩, .int .i64 x, .slice (some ⟨w.heap.size + 1 + 1, 0, none⟩) 1 1]).alloc (.cells #[.int .i64 k, .string s, .int .i64 n, .slice a m cap] 25)
    rw [World.size_alloc] at this
    exact this
  have g3 : Blk (((w.alloc (.cells #[.int .i64 k, .string s, .int .i64 n, .slice a m cap] 25)).alloc (.cells #[.int .i64 5, .string ⟨#[]⟩, .int .i64 x, .slice (some ⟨w.heap.size + 1 + 1, 0, none⟩) 1 1] 25)).alloc (.cells #[.int .i64 k, .string s, .int .i64 n, .slice a m cap] 25)) (w.heap.size + 1 + 1) 25 #[.int .i64 k, .string s, .int .i64 n, .slice a m cap] := by
    have := Blk.new ((w.alloc (.cells #[.int .i64 k, .string s, .int .i64 n, .slice a m cap] 25)).alloc (.cells #[.int .i64 5, .string ⟨#[]⟩, .int .i64 x, .slice (some ⟨w.heap.size + 1 + 1, 0, none⟩) 1 1] 25)) 25 #[.int .i64 k, .string s, .int .i64 n, .slice a m cap]
    rw [World.size_alloc, World.size_alloc] at this
    exact this
  have hB := (((Below.refl _ w).alloc (Nat.le_refl _) (.cells #[.int .i64 k, .string s, .int .i64 n, .slice a m cap] 25)).alloc (by simp) (.cells #[.int .i64 5, .string ⟨#[]⟩, .int .i64 x, .slice (some ⟨w.heap.size + 1 + 1, 0, none⟩) 1 1] 25)).alloc (by simp; omega) (.cells #[.int .i64 k, .string s, .int .i64 n, .slice a m cap] 25)
  refine made (g := w.heap.size + 1) rfl rfl g2 rfl ?_ hB
  exact IsDc.one g3 (Or.inr ⟨by omega, by simp⟩) (IsDc.keep (fun b hb => ⟨Or.inl hb, hB.block b (hF b hb)⟩) _ _ h) (by omega) hx

theorem refIn_any (F : Nat → Prop) (d : Dc) (v : Value) (x : Int) (hx : -9223372036854775808 ≤ x ∧ x ≤ 9223372036854775807) (w : World) (hF : ∀ b, F b → b < w.heap.size) (h : IsDc w F d v) : Calls Try.prog 22 #[.int .i64 x, v] w (DcPost w F (inD x d)) := by
  obtain ⟨k, s, n, a, m, cap, rfl⟩ := h.form
  go_enter Try.func22, Try.ntmps22
  go_wp2_with fail
  have g2 : Blk (((w.alloc (.cells #[.int .i64 k, .string s, .int .i64 n, .slice a m cap] 25)).alloc (.cells #[.int .i64 5, .string ⟨#[]⟩, .int .i64 x, .slice (some ⟨w.heap.size + 1 + 1, 0, none⟩) 1 1] 25)).alloc (.cells #[.int .i64 k, .string s, .int .i64 n, .slice a m cap] 25)) (w.heap.size + 1) 25 #[.int .i64 5, .string ⟨#[]⟩, .int .i64 x, .slice (some ⟨w.heap.size + 1 + 1, 0, none⟩) 1 1] := by
    have := (Blk.new (w.alloc (.cells #[.int .i64 k, .string s, .int .i64 n, .slice a m cap] 25)) 25 #[.int .i64 5, .string ⟨#[]⟩, .int .i64 x, .slice (some ⟨w.heap.size + 1 + 1, 0, none⟩) 1 1]).alloc (.cells #[.int .i64 k, .string s, .int .i64 n, .slice a m cap] 25)
    rw [World.size_alloc] at this
    exact this
  have g3 : Blk (((w.alloc (.cells #[.int .i64 k, .string s, .int .i64 n, .slice a m cap] 25)).alloc (.cells #[.int .i64 5, .string ⟨#[]⟩, .int .i64 x, .slice (some ⟨w.heap.size + 1 + 1, 0, none⟩) 1 1] 25)).alloc (.cells #[.int .i64 k, .string s, .int .i64 n, .slice a m cap] 25)) (w.heap.size + 1 + 1) 25 #[.int .i64 k, .string s, .int .i64 n, .slice a m cap] := by
    have := Blk.new ((w.alloc (.cells #[.int .i64 k, .string s, .int .i64 n, .slice a m cap] 25)).alloc (.cells #[.int .i64 5, .string ⟨#[]⟩, .int .i64 x, .slice (some ⟨w.heap.size + 1 + 1, 0, none⟩) 1 1] 25)) 25 #[.int .i64 k, .string s, .int .i64 n, .slice a m cap]
    rw [World.size_alloc, World.size_alloc] at this
    exact this
  have hB := (((Below.refl _ w).alloc (Nat.le_refl _) (.cells #[.int .i64 k, .string s, .int .i64 n, .slice a m cap] 25)).alloc (by simp) (.cells #[.int .i64 5, .string ⟨#[]⟩, .int .i64 x, .slice (some ⟨w.heap.size + 1 + 1, 0, none⟩) 1 1] 25)).alloc (by simp; omega) (.cells #[.int .i64 k, .string s, .int .i64 n, .slice a m cap] 25)
  refine made (g := w.heap.size + 1) rfl rfl g2 rfl ?_ hB
  exact IsDc.one g3 (Or.inr ⟨by omega, by simp⟩) (IsDc.keep (fun b hb => ⟨Or.inl hb, hB.block b (hF b hb)⟩) _ _ h) (by omega) hx

theorem refFlat_any (d : Dc) (v : Value) (w : World) (h : IsDc w (· < w.heap.size) d v) (hs : (flatD d).size ≤ 1000000000) :
    Calls Try.prog 12 #[v] w fun e w' => e = .returned (.tuple #[.string (if hardD d then ByteArray.empty else flatD d), .bool (!hardD d)]) ∧ Below w.heap.size w w' := by
  obtain ⟨k, s, n, a, m, cap, rfl⟩ := h.form
  go_enter Try.func12, Try.ntmps12
  go_wp2_with fail
  have hB1 : Below w.heap.size w (w.alloc (.cells #[.int .i64 k, .string s, .int .i64 n, .slice a m cap] 25)) := (Below.refl _ w).alloc (Nat.le_refl _) _
  have h1 := h.below hB1 (by simp)
  have bW := Blk.new w 25 #[.int .i64 k, .string s, .int .i64 n, .slice a m cap]
  generalize w.alloc (.cells #[.int .i64 k, .string s, .int .i64 n, .slice a m cap] 25) = W at hB1 h1 bW ⊢
  refine (hard_any d _ W h1).mono ?_
  rintro e w1 ⟨rfl, hb1⟩
  have hB2 := hB1.trans (hb1.mono hB1.size)
  have h2 := h1.below hb1 hb1.size
  obtain ⟨b0, b1, b2, b3⟩ := (bW.below hb1 bW.lt).four
  cases hh : hardD d with
  | true =>
    go_wp2_with fail
    go_ret2
    exact ⟨rfl, hB2⟩
  | false =>
    go_wp2_with fail
    refine (flat_any d _ w1 h2 hs).mono ?_
    rintro e w2 ⟨rfl, hb2⟩
    go_wp2_with fail
    all_goals
      go_ret2
      exact ⟨rfl, hB2.trans (hb2.mono hB2.size)⟩
end Go.Proofs.Ytggbocimapdidaa
