/-
  Documents beside a block that is still to be written: makers that leave it out of what they hand back; the plain laws of rows of two or three.
  Its condition: the block is there.
-/
import Derived.Test.YtggbocimapdidaaGenP
import Derived.Test.YtggbocimapdidaaSame
import Derived.Test.YtggbocimapdidaaRight
import Derived.Test.YtggbocimapdidaaLaw
namespace Go.Proofs.Ytggbocimapdidaa
open Go.RowKit Go.WideShapes

/-- The value reads as the document, whose Kids do not lie in block g. -/
def IsX (g : Nat) (w : World) (d : Dc) (v : Value) : Prop := IsDc w (fun b => b ≠ g ∧ b < w.heap.size) d v
theorem Is.toX {w : World} {d : Dc} {v : Value} (h : Is w d v) (o : Obj) : IsX w.heap.size (w.alloc o) d v := IsDc.keep (fun b hb => ⟨⟨by have : b < w.heap.size := hb; omega, by simp; have : b < w.heap.size := hb; omega⟩, Below.heap_alloc w o b hb⟩) _ _ h
theorem IsX.below {g : Nat} {w w' : World} {d : Dc} {v : Value} (h : IsX g w d v) (hb : Below w.heap.size w w') : IsX g w' d v := IsDc.keep (fun b h => ⟨⟨h.1, Nat.lt_of_lt_of_le h.2 hb.size⟩, hb.block b h.2⟩) _ _ h
theorem IsX.put {g : Nat} {w : World} {d : Dc} {v : Value} {x y z u : Value} (h : IsX g w d v) : Is (put4 w g x y z u) d v := IsDc.keep (fun b hb => ⟨by rw [size_put4]; exact hb.2, heap_put4 w hb.1 _ _ _ _⟩) _ _ h
def DcNewX (g : Nat) (w : World) (d : Dc) (e : Ending) (w' : World) : Prop := ∃ k s n a m c, e = .returned (.agg #[.int .i64 k, .string s, .int .i64 n, .slice a m c]) ∧ IsX g w' d (.agg #[.int .i64 k, .string s, .int .i64 n, .slice a m c]) ∧ Below w.heap.size w w'
theorem DcNewX.of {g : Nat} {w w' : World} {d : Dc} {e : Ending} (hg : g < w.heap.size) (h : DcPost w (fun b => b ≠ g ∧ b < w.heap.size) d e w') : DcNewX g w d e w' := by
  obtain ⟨v, rfl, h1, h2⟩ := h
  obtain ⟨k, s, n, a, m, c, rfl⟩ := h1.form
  exact ⟨k, s, n, a, m, c, rfl, IsDc.keep (fun b hb => ⟨by have := h2.size; rcases hb with hb | hb <;> omega, rfl⟩) _ _ h1, h2⟩
theorem fit_x {g : Nat} {d : Dc} {v : Value} {w : World} (hg : g < w.heap.size) (h : IsX g w d v) : Calls Try.prog 19 #[v] w (DcNewX g w (fitD d)) := (fit_any _ d v w (fun _ h => h.2) h).mono fun _ _ h => DcNewX.of hg h
theorem in_x {g : Nat} {d : Dc} {v : Value} {w : World} (x : Int) (hx : -9223372036854775808 ≤ x ∧ x ≤ 9223372036854775807) (hg : g < w.heap.size) (h : IsX g w d v) : Calls Try.prog 20 #[.int .i64 x, v] w (DcNewX g w (inD x d)) := (in_any _ d v x hx w (fun _ h => h.2) h).mono fun _ _ h => DcNewX.of hg h
theorem row_x {g : Nat} {ds : List Dc} {v : Value} {w : World} (hg : g < w.heap.size) (h : InSl w (fun b => b ≠ g ∧ b < w.heap.size) ds v) (hl : ds.length ≤ 1000000) (hn : ds.length ≠ 0) : Calls Try.prog 16 #[v] w (DcNewX g w (rowD ds)) := (row_any _ ds v w (fun _ h => h.2) h hl (fun h => absurd h hn)).mono fun _ _ h => DcNewX.of hg h
/-- A slice that was just built. -/
theorem insl_lit {g : Nat} {w : World} {xs : List Value} {ds : List Dc} (h : IsRow w (fun b => b ≠ g ∧ b < w.heap.size) xs ds) (hl : ds.length ≤ maxLen) : InSl (w.alloc (.cells xs.toArray 25)) (fun b => b ≠ g ∧ b < (w.alloc (.cells xs.toArray 25)).heap.size) ds (.slice (some ⟨w.heap.size, 0, none⟩) ds.length ds.length) := by
  refine ⟨some ⟨w.heap.size, 0, none⟩, ds.length, rfl, hl, fun _ => ⟨w.heap.size, 0, rfl, by simp, IsRow.dcs (fun j u hu => ?_) (h.keep (fun b hb => ⟨⟨hb.1, by simp; omega⟩, Below.heap_alloc w _ b hb.2⟩))⟩⟩
  have := (Blk.new w 25 xs.toArray).cell j
  rw [Nat.zero_add, this]
  simpa using hu

def e0 : Dc := .mk 0 ByteArray.empty 0 .nil
theorem full_7 {d : Dc} (h : d.kind = 7) : d.full = true := by rw [Dc.full, h]; rfl
theorem row_2 {a b : Dc} (ha : a.full = true) (hb : b.full = true) : rowD [a, b] = .mk 7 ByteArray.empty 0 (.cons a (.cons b .nil)) := by
  have hf : [a, b].filter Dc.full = [a, b] := by simp [ha, hb]
  rw [rowD, hf, rowOf, Dcs.ofL, Dcs.ofL, Dcs.ofL]
  · simp
  · intro d0 e; simp at e
theorem row_3 {a b : Dc} (ha : a.full = true) (hb : b.full = true) : rowD [a, e0, b] = .mk 7 ByteArray.empty 0 (.cons a (.cons b .nil)) := by
  have hf : [a, e0, b].filter Dc.full = [a, b] := by
    have : e0.full = false := rfl
    simp [ha, hb, this]
  rw [rowD, hf, rowOf, Dcs.ofL, Dcs.ofL, Dcs.ofL]
  · simp
  · intro d0 e; simp at e
theorem row_1 {a : Dc} (ha : a.full = true) : rowD [a] = a := by
  rw [rowD]
  simp [ha, rowOf]
theorem row_es {a : Dc} (ha : a.full = true) : ∀ k : Nat, rowD (List.replicate k e0 ++ [a]) = a
  | 0 => row_1 ha
  | k + 1 => by
    have ih := row_es ha k
    have h0 : e0.full = false := rfl
    rw [rowD] at ih ⊢
    rw [List.replicate_succ, List.cons_append, List.filter_cons, h0]
    simpa using ih
theorem leaves_2 (a b : Dc) : leavesD (.mk 7 ByteArray.empty 0 (.cons a (.cons b .nil))) = leavesD a ++ leavesD b := by
  rw [leavesD, if_neg (by decide), leavesDs, leavesDs, leavesDs, List.append_nil]
theorem leaves_fit (a : Dc) : leavesD (fitD a) = leavesD a := by
  rw [fitD, leavesD, if_neg (by decide), leavesDs, leavesDs, List.append_nil]
theorem leaves_in (n : Int) (a : Dc) : leavesD (inD n a) = leavesD a := by
  rw [inD, leavesD, if_neg (by decide), leavesDs, leavesDs, List.append_nil]
theorem full_fit (a : Dc) : (fitD a).full = true := rfl
theorem tot_2 (a b : Dc) : totD (.mk 7 ByteArray.empty 0 (.cons a (.cons b .nil))) = totD a + totD b + 1 := by
  rw [totD, totDs, totDs, totDs]
  simp
  omega
theorem tot_fit (a : Dc) : totD (fitD a) = totD a + 1 := by
  rw [fitD, totD, totDs, totDs]
  simp
  omega
theorem tot_in (n : Int) (a : Dc) : totD (inD n a) = totD a + 1 := by
  rw [inD, totD, totDs, totDs]
  simp
  omega

/-- Eight cells that are read. -/
def Reads8 (g5 g6 : Nat) (k1 : Int) (s1 : ByteArray) (n1 : Int) (a1 : Option Addr) (m1 c1 : Nat) (kx : Int) (sx : ByteArray) (nx : Int) (ax : Option Addr) (mx cx : Nat) (w : World) : Prop :=
  w.cell? ⟨g5, 0, none⟩ = some (.int .i64 k1) ∧ w.cell? ⟨g5, 1, none⟩ = some (.string s1) ∧ w.cell? ⟨g5, 2, none⟩ = some (.int .i64 n1) ∧ w.cell? ⟨g5, 3, none⟩ = some (.slice a1 m1 c1) ∧
    w.cell? ⟨g6, 0, none⟩ = some (.int .i64 kx) ∧ w.cell? ⟨g6, 1, none⟩ = some (.string sx) ∧ w.cell? ⟨g6, 2, none⟩ = some (.int .i64 nx) ∧ w.cell? ⟨g6, 3, none⟩ = some (.slice ax mx cx)
theorem s8_put {g g5 g6 : Nat} {k1 : Int} {s1 : ByteArray} {n1 : Int} {a1 : Option Addr} {m1 c1 : Nat} {kx : Int} {sx : ByteArray} {nx : Int} {ax : Option Addr} {mx cx : Nat} {w : World} (h5 : g5 ≠ g) (h6 : g6 ≠ g) (h : Reads8 g5 g6 k1 s1 n1 a1 m1 c1 kx sx nx ax mx cx w) (x y z u : Value) :
    Reads8 g5 g6 k1 s1 n1 a1 m1 c1 kx sx nx ax mx cx (put4 w g x y z u) := by
  have c5 : ∀ i, (put4 w g x y z u).cell? ⟨g5, i, none⟩ = w.cell? ⟨g5, i, none⟩ := fun i => World.cell?_of_block (heap_put4 w h5 _ _ _ _)
  have c6 : ∀ i, (put4 w g x y z u).cell? ⟨g6, i, none⟩ = w.cell? ⟨g6, i, none⟩ := fun i => World.cell?_of_block (heap_put4 w h6 _ _ _ _)
  obtain ⟨e0, e1, e2, e3, f0, f1, f2, f3⟩ := h
  exact ⟨(c5 0).trans e0, (c5 1).trans e1, (c5 2).trans e2, (c5 3).trans e3, (c6 0).trans f0, (c6 1).trans f1, (c6 2).trans f2, (c6 3).trans f3⟩
theorem slx {w w' : World} {ds : List Dc} {v : Value} (h : IsSl w (· < w.heap.size) ds v) (hb : Below w.heap.size w w') : InSl w' (fun b => b ≠ w.heap.size ∧ b < w'.heap.size) ds v := by
  obtain ⟨a, cap, h0, h1, h2⟩ := h
  refine ⟨a, cap, h0, h1, fun hne => ?_⟩
  obtain ⟨b, o, ha, hlt, hd⟩ := h2 hne
  have hz := hb.size
  exact ⟨b, o, ha, Nat.lt_of_lt_of_le hlt hz, IsDcs.keepAt (fun x hx => ⟨⟨by have : x < w.heap.size := hx; omega, by have : x < w.heap.size := hx; omega⟩, hb.block x hx⟩) (hb.block b hlt) _ o hd⟩
/-- A document was made and lies in a block. -/
def MadeAt (w0 : World) (d : Dc) (v : Value) (wx : World) : Prop := ∃ g k s n a m c, v = .pointer (some ⟨g, 0, none⟩) ∧ Blk wx g 25 #[.int .i64 k, .string s, .int .i64 n, .slice a m c] ∧ Is wx d (.agg #[.int .i64 k, .string s, .int .i64 n, .slice a m c]) ∧ Below w0.heap.size w0 wx
end Go.Proofs.Ytggbocimapdidaa
