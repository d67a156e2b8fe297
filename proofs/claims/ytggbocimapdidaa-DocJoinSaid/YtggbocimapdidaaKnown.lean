/-
  The laws' own example, and words for documents that lie anywhere in memory.
  No condition.
-/
import Derived.Test.YtggbocimapdidaaFlatP
import Derived.Test.YtggbocimapdidaaRowQ
import Derived.Test.YtggbocimapdidaaSay
namespace Go.Proofs.Ytggbocimapdidaa
open Go.RowKit

/-- The value reads as the document, wherever it lies. -/
def Is (w : World) (d : Dc) (v : Value) : Prop := IsDc w (· < w.heap.size) d v
theorem Is.below {w w' : World} {d : Dc} {v : Value} (h : Is w d v) (hb : Below w.heap.size w w') : Is w' d v := IsDc.below h hb hb.size
theorem Is.alloc {w : World} {d : Dc} {v : Value} (h : Is w d v) (o : Obj) : Is (w.alloc o) d v := h.below ((Below.refl _ w).alloc (Nat.le_refl _) o)
/-- The call hands back a document; what was there is as it was. -/
def DcNew (w : World) (d : Dc) (e : Ending) (w' : World) : Prop := ∃ k s n a m c, e = .returned (.agg #[.int .i64 k, .string s, .int .i64 n, .slice a m c]) ∧ Is w' d (.agg #[.int .i64 k, .string s, .int .i64 n, .slice a m c]) ∧ Below w.heap.size w w'
theorem DcNew.of {w w' : World} {d : Dc} {e : Ending} (h : DcPost w (· < w.heap.size) d e w') : DcNew w d e w' := by
  obtain ⟨v, rfl, h1, h2⟩ := h
  obtain ⟨k, s, n, a, m, c, rfl⟩ := h1.form
  exact ⟨k, s, n, a, m, c, rfl, IsDc.keep (fun b hb => ⟨by have := h2.size; rcases hb with hb | hb <;> omega, rfl⟩) _ _ h1, h2⟩
theorem say_n (s : ByteArray) (w : World) (hs : s.size ≤ maxLen) : Calls Try.prog 15 #[.string s] w (DcNew w (sayD s)) := (say_any _ s w hs).mono fun _ _ h => DcNew.of h
theorem refSay_n (s : ByteArray) (w : World) (hs : s.size ≤ maxLen) : Calls Try.prog 21 #[.string s] w (DcNew w (sayD s)) := (refSay_any _ s w hs).mono fun _ _ h => DcNew.of h
theorem fit_n {d : Dc} {v : Value} {w : World} (h : Is w d v) : Calls Try.prog 19 #[v] w (DcNew w (fitD d)) := (fit_any _ d v w (fun _ h => h) h).mono fun _ _ h => DcNew.of h
theorem in_n {d : Dc} {v : Value} {w : World} (x : Int) (hx : -9223372036854775808 ≤ x ∧ x ≤ 9223372036854775807) (h : Is w d v) : Calls Try.prog 20 #[.int .i64 x, v] w (DcNew w (inD x d)) := (in_any _ d v x hx w (fun _ h => h) h).mono fun _ _ h => DcNew.of h
theorem row_n {ds : List Dc} {v : Value} {w : World} (h : IsSl w (· < w.heap.size) ds v) (hl : ds.length ≤ 1000000) (hn : ds.length ≠ 0) : Calls Try.prog 16 #[v] w (DcNew w (rowD ds)) := (row_any _ ds v w (fun _ h => h) (h.inSl (fun _ h => h)) hl (fun h => absurd h hn)).mono fun _ _ h => DcNew.of h
theorem row_nil (w : World) : Calls Try.prog 16 #[.slice none 0 0] w (DcNew w (rowD [])) := (row_any _ [] _ w (fun _ h => h) ⟨none, 0, rfl, Nat.zero_le _, fun h => absurd rfl h⟩ (by decide) (fun _ => rfl)).mono fun _ _ h => DcNew.of h

/-- A slice that was just built of documents. -/
theorem isl_lit {w : World} {xs : List Value} {ds : List Dc} (h : IsRow w (· < w.heap.size) xs ds) (hl : ds.length ≤ maxLen) : IsSl (w.alloc (.cells xs.toArray 25)) (· < (w.alloc (.cells xs.toArray 25)).heap.size) ds (.slice (some ⟨w.heap.size, 0, none⟩) ds.length ds.length) := by
  refine ⟨some ⟨w.heap.size, 0, none⟩, ds.length, rfl, hl, fun _ => ⟨w.heap.size, 0, rfl, by simp, IsRow.dcs (fun j u hu => ?_) (h.keep (fun b hb => ⟨by simp; omega, Below.heap_alloc w _ b hb⟩))⟩⟩
  have := (Blk.new w 25 xs.toArray).cell j
  rw [Nat.zero_add, this]
  simpa using hu
theorem IsRow.two {w : World} {F : Nat → Prop} {d d' : Dc} {a b c e a' b' c' e' : Value} (h : IsDc w F d (.agg #[a, b, c, e])) (h' : IsDc w F d' (.agg #[a', b', c', e'])) : IsRow w F [a, b, c, e, a', b', c', e'] [d, d'] := IsRow.cons.2 ⟨h, IsRow.one h'⟩
theorem IsRow.three {w : World} {F : Nat → Prop} {d d' d'' : Dc} {a b c e a' b' c' e' a'' b'' c'' e'' : Value} (h : IsDc w F d (.agg #[a, b, c, e])) (h' : IsDc w F d' (.agg #[a', b', c', e'])) (h'' : IsDc w F d'' (.agg #[a'', b'', c'', e''])) :
    IsRow w F [a, b, c, e, a', b', c', e', a'', b'', c'', e''] [d, d', d''] := IsRow.cons.2 ⟨h, IsRow.two h' h''⟩
theorem is_leaf {w : World} (k : Int) (hk : -9223372036854775808 ≤ k ∧ k ≤ 9223372036854775807) : Is w (.mk k ByteArray.empty 0 .nil) (.agg #[.int .i64 k, .string ⟨#[]⟩, .int .i64 0, .slice none 0 0]) := IsDc.leaf hk (by omega) (by decide)
theorem is_empty {w : World} : Is w (.mk 0 ByteArray.empty 0 .nil) (.agg #[.int .i64 0, .string ⟨#[]⟩, .int .i64 0, .slice none 0 0]) := is_leaf 0 (by omega)

def exD : Dc := .mk 7 ByteArray.empty 0 (.cons (.mk 1 ⟨#[97]⟩ 0 .nil) (.cons (.mk 2 ByteArray.empty 0 .nil) (.cons (.mk 1 ⟨#[98]⟩ 0 .nil) .nil)))
theorem say_a : sayD ⟨#[97]⟩ = .mk 1 ⟨#[97]⟩ 0 .nil := by rw [sayD, if_neg (by decide)]
theorem say_e : sayD ⟨#[]⟩ = .mk 0 ByteArray.empty 0 .nil := by rw [sayD]; exact if_pos rfl
theorem say_b : sayD ⟨#[98]⟩ = .mk 1 ⟨#[98]⟩ 0 .nil := by rw [sayD, if_neg (by decide)]
theorem row_ex : rowD [.mk 1 ⟨#[97]⟩ 0 .nil, .mk 2 ByteArray.empty 0 .nil, .mk 1 ⟨#[98]⟩ 0 .nil] = exD := by
  rw [rowD]
  simp [Dc.full, Dc.kind, rowOf, Dcs.ofL, exD]
theorem leaves_ex : leavesD exD = [.mk 1 ⟨#[97]⟩ 0 .nil, .mk 2 ByteArray.empty 0 .nil, .mk 1 ⟨#[98]⟩ 0 .nil] := by
  simp [exD, leavesD, leavesDs]

theorem field0 (k : Int) (s : ByteArray) (n : Int) (a : Option Addr) (m c : Nat) (w : World) : (Instr.field 25 (.agg #[.int .i64 k, .string s, .int .i64 n, .slice a m c]) 0).run Try.prog w = .ok (.int .i64 k) w := by kernel_rfl

set_option maxHeartbeats 2000000 in
theorem known_any (w : World) : Calls Try.prog 10 #[] w (Says true w) := by
  go_enter Try.func10, Try.ntmps10
  go_wp2_with fail
  refine (say_n ⟨#[97]⟩ w (by decide)).mono ?_
  rintro e w1 ⟨k1, s1, n1, a1, m1, c1, rfl, h1, hb1⟩
  go_wp2_with fail
  refine (say_n ⟨#[98]⟩ w1 (by decide)).mono ?_
  rintro e w2 ⟨k2, s2, n2, a2, m2, c2, rfl, h2, hb2⟩
  rw [say_a] at h1
  rw [say_b] at h2
  have HS := hide (isl_lit (IsRow.three (h1.below hb2) (is_leaf 2 (by omega)) h2) (by decide))
  have hB2 : Below w.heap.size w w2 := hb1.trans (hb2.mono hb1.size)
  clear h1 h2 hb1 hb2
  go_wp2_with fail
  refine (row_n HS.out (by decide) (by decide)).mono ?_
  rintro e w3 ⟨k3, s3, n3, a3, m3, c3, rfl, h3, hb3⟩
  rw [row_ex] at h3
  have hB3 : Below w.heap.size w w3 := (hB2.alloc hB2.size _).trans (hb3.mono (by simp; have := hB2.size; omega))
  clear hb3 HS hB2
  obtain ⟨W4, hW4⟩ : ∃ W4, w3.alloc (.cells #[.int .i64 k3, .string s3, .int .i64 n3, .slice a3 m3 c3] 25) = W4 := ⟨_, rfl⟩
  have h4 : Is W4 exD (.agg #[.int .i64 k3, .string s3, .int .i64 n3, .slice a3 m3 c3]) := hW4 ▸ h3.alloc _
  have hb4 : Blk W4 w3.heap.size 25 #[.int .i64 k3, .string s3, .int .i64 n3, .slice a3 m3 c3] := hW4 ▸ Blk.new w3 25 _
  have hB4 : Below w.heap.size w W4 := hW4 ▸ hB3.alloc hB3.size _
  obtain ⟨p0, p1, p2, p3⟩ := hb4.four
  have HB := hide hb4
  have H4 := hide h4
  clear h3 hb4 h4
  go_wp2_with fail
  refine (flat_p exD _ W4 H4.out (by rw [leaves_ex]; decide)).mono ?_
  rintro e w5 ⟨rfl, hb5⟩
  have e5 : flatP (leavesD exD) = .tuple #[.string ⟨#[97, 32, 98]⟩, .bool true] := by rw [leaves_ex]; rfl
  rw [e5]
  have hB5 : Below w.heap.size w w5 := hB4.trans (hb5.mono hB4.size)
  clear p0 p1 p2 p3 e5 hW4
  go_wp2_with fail
  refine (flat_p (.mk 4 ByteArray.empty 0 .nil) _ w5 (is_leaf 4 (by omega)) (by simp [leavesD, lineL, lineD, Dc.kind, Dc.text])).mono ?_
  rintro e w6 ⟨rfl, hb6⟩
  have e6 : flatP (leavesD (.mk 4 ByteArray.empty 0 .nil)) = .tuple #[.string ⟨#[]⟩, .bool false] := by rw [leavesD, if_pos (by decide)]; rfl
  rw [e6]
  have hB6 : Below w.heap.size w w6 := hB5.trans (hb6.mono hB5.size)
  clear e6
  go_wp2_with fail
  refine (row_nil w6).mono ?_
  rintro e w7 ⟨k7, s7, n7, a7, m7, c7, rfl, h7, hb7⟩
  have hk7 : k7 = 0 := by
    obtain ⟨x, hx, -⟩ := IsDc.split h7
    simp only [Value.agg.injEq, Array.mk.injEq, List.cons.injEq, Value.int.injEq, true_and] at hx
    exact hx.1
  subst hk7
  have hB7 : Below w.heap.size w w7 := hB6.trans (hb7.mono hB6.size)
  have hf7 := field0 0 s7 n7 a7 m7 c7 w7
  clear h7
  go_wp2_with fail
  refine (say_n ⟨#[]⟩ w7 (by decide)).mono ?_
  rintro e w8 ⟨k8, s8, n8, a8, m8, c8, rfl, h8, hb8⟩
  have hk8 : k8 = 0 := by
    rw [say_e] at h8
    obtain ⟨x, hx, -⟩ := IsDc.split h8
    simp only [Value.agg.injEq, Array.mk.injEq, List.cons.injEq, Value.int.injEq, true_and] at hx
    exact hx.1
  subst hk8
  have hB8 : Below w.heap.size w w8 := hB7.trans (hb8.mono hB7.size)
  have hx : Below W4.heap.size W4 w8 := (hb5.trans (hb6.mono hb5.size)).trans ((hb7.trans (hb8.mono hb7.size)).mono (by have := hb5.size; have := hb6.size; omega))
  obtain ⟨p0, p1, p2, p3⟩ := (HB.out.below hx HB.out.lt).four
  have H9 := hide (H4.out.below hx)
  have hf8 := field0 0 s8 n8 a8 m8 c8 w8
  clear h8 hb5 hb6 hb7 hb8 hx hf7
  go_wp2_with fail
  refine (words_p exD _ w8 H9.out (by rw [leaves_ex]; decide)).mono ?_
  rintro e w9 ⟨rfl, hb9⟩
  have e9 : textsL (leavesD exD) = [97, 98] := by rw [leaves_ex]; rfl
  rw [e9]
  clear e9 p0 p1 p2 p3
  go_wp2_with fail
  go_ret
  exact ⟨rfl, hB8.trans (hb9.mono hB8.size)⟩
end Go.Proofs.Ytggbocimapdidaa
