/-
  The walk of DocApart: it gives true.
  Its condition: the text has at most 140737488351232 bytes.
-/
import Derived.Test.YtggbocimapdidaaKnown
import Derived.Test.YtggbocimapdidaaSame
namespace Go.Proofs.Ytggbocimapdidaa
open Go.RowKit

mutual
theorem sameD_refl : ∀ d : Dc, sameD d d = true
  | .mk k s n ks => by rw [sameD, sameDs_refl ks]; simp
theorem sameDs_refl : ∀ ks : Dcs, sameDs ks ks = true
  | .nil => by rw [sameDs]
  | .cons d r => by rw [sameDs, sameD_refl d, sameDs_refl r]; rfl
end
theorem same_n {d d' : Dc} {v v' : Value} {w : World} (h : Is w d v) (h' : Is w d' v') : Calls Try.prog 17 #[v, v'] w (Says (sameD d d') w) := same_any d d' v v' w h h'
theorem say_c : sayD ⟨#[99]⟩ = .mk 1 ⟨#[99]⟩ 0 .nil := by rw [sayD, if_neg (by decide)]
theorem say_x : sayD ⟨#[120]⟩ = .mk 1 ⟨#[120]⟩ 0 .nil := by rw [sayD, if_neg (by decide)]
theorem row_ab : rowD [.mk 1 ⟨#[97]⟩ 0 .nil, .mk 1 ⟨#[98]⟩ 0 .nil, .mk 2 ByteArray.empty 0 .nil] = .mk 7 ByteArray.empty 0 (.cons (.mk 1 ⟨#[97]⟩ 0 .nil) (.cons (.mk 1 ⟨#[98]⟩ 0 .nil) (.cons (.mk 2 ByteArray.empty 0 .nil) .nil))) := by
  rw [rowD]
  simp [Dc.full, Dc.kind, rowOf, Dcs.ofL]
theorem texts_ab : textsL (leavesD (.mk 7 ByteArray.empty 0 (.cons (.mk 1 ⟨#[97]⟩ 0 .nil) (.cons (.mk 1 ⟨#[98]⟩ 0 .nil) (.cons (.mk 2 ByteArray.empty 0 .nil) .nil))))) = [97, 98] := by
  simp [leavesD, leavesDs, textsL, Dc.text]
theorem texts_sx (s : ByteArray) : textsL (leavesD (rowD [sayD s, .mk 1 ⟨#[120]⟩ 0 .nil])) = s.data.toList ++ [120] := by
  by_cases h : s = ByteArray.empty
  · subst h
    rw [sayD, if_pos rfl, rowD]
    simp [Dc.full, Dc.kind, rowOf, leavesD, textsL, Dc.text]
  · rw [sayD, if_neg h, rowD]
    simp [Dc.full, Dc.kind, rowOf, Dcs.ofL, leavesD, leavesDs, textsL, Dc.text]
theorem bytes_sx (s : ByteArray) : (⟨(s.data.toList ++ [120]).toArray⟩ : ByteArray) = s ++ ⟨#[120]⟩ := by
  apply ByteArray.ext
  apply Array.ext'
  simp

set_option maxHeartbeats 2000000 in
theorem apart_any (s : ByteArray) (w : World) (hs : s.size ≤ 140737488351232) : Calls Try.prog 4 #[.string s] w (Says true w) := by
  by_cases hbig : 100 < s.size
  · go_enter Try.func4, Try.ntmps4
    go_wp2_with fail
    refine (known_any w).mono ?_
    rintro e w1 ⟨rfl, hb⟩
    go_wp2_with fail
    go_ret
    exact ⟨rfl, hb⟩
  go_enter Try.func4, Try.ntmps4
  go_wp2_with fail
  refine (say_n ⟨#[97]⟩ w (by decide)).mono ?_
  rintro e w1 ⟨k1, s1, n1, a1, m1, c1, rfl, h1, hb1⟩
  go_wp2_with fail
  refine (say_n ⟨#[98]⟩ w1 (by decide)).mono ?_
  rintro e w2 ⟨k2, s2, n2, a2, m2, c2, rfl, h2, hb2⟩
  rw [say_a] at h1
  rw [say_b] at h2
  have hB2 : Below w.heap.size w w2 := hb1.trans (hb2.mono hb1.size)
  have leafF : ∀ {W : World} {F F' : Nat → Prop} {k n : Int} {t : ByteArray} {v : Value}, IsDc W F (.mk k t n .nil) v → ∀ W' : World, IsDc W' F' (.mk k t n .nil) v := by
    intro W F F' k n t v h W'
    rw [IsDc] at h ⊢
    obtain ⟨a, cap, h0, h1, h2, h3, h4, _⟩ := h
    exact ⟨a, cap, h0, h1, h2, h3, h4, fun hne => absurd rfl hne⟩
  have hR : IsRow w2 (fun _ => False) [.int .i64 k1, .string s1, .int .i64 n1, .slice a1 m1 c1, .int .i64 k2, .string s2, .int .i64 n2, .slice a2 m2 c2, .int .i64 2, .string ⟨#[]⟩, .int .i64 0, .slice none 0 0] [.mk 1 ⟨#[97]⟩ 0 .nil, .mk 1 ⟨#[98]⟩ 0 .nil, .mk 2 ByteArray.empty 0 .nil] := IsRow.three (leafF h1 w2) (leafF h2 w2) (leafF (is_leaf (w := w2) 2 (by omega)) w2)
  obtain ⟨W3, hW3⟩ : ∃ W3, w2.alloc (.cells #[.int .i64 k1, .string s1, .int .i64 n1, .slice a1 m1 c1, .int .i64 k2, .string s2, .int .i64 n2, .slice a2 m2 c2, .int .i64 2, .string ⟨#[]⟩, .int .i64 0, .slice none 0 0] 25) = W3 := ⟨_, rfl⟩
  have bL : Blk W3 w2.heap.size 25 #[.int .i64 k1, .string s1, .int .i64 n1, .slice a1 m1 c1, .int .i64 k2, .string s2, .int .i64 n2, .slice a2 m2 c2, .int .i64 2, .string ⟨#[]⟩, .int .i64 0, .slice none 0 0] := hW3 ▸ Blk.new w2 25 _
  have hB3 : Below w.heap.size w W3 := hW3 ▸ hB2.alloc hB2.size _
  have hz3 : W3.heap.size = w2.heap.size + 1 := by rw [← hW3]; simp
  have hS : InSl W3 (fun _ => False) [.mk 1 ⟨#[97]⟩ 0 .nil, .mk 1 ⟨#[98]⟩ 0 .nil, .mk 2 ByteArray.empty 0 .nil] (.slice (some ⟨w2.heap.size, 0, none⟩) 3 3) := by
    refine ⟨some ⟨w2.heap.size, 0, none⟩, 3, rfl, by decide, fun _ => ⟨w2.heap.size, 0, rfl, bL.lt, IsRow.dcs (fun j u hu => ?_) (hR.keep (fun _ h => h.elim))⟩⟩
    rw [Nat.zero_add, bL.cell j]
    simpa using hu
  have HS := hide (row_any (fun _ => False) _ _ W3 (fun _ h => h.elim) hS (by decide) (fun h => absurd h (by decide)))
  have HL := hide bL
  have HZ := hide hz3
  clear h1 h2 hb1 hb2 hR hS bL hz3 leafF
  go_wp2_with fail
  refine (unhide HS).mono ?_
  rintro e w4 ⟨v4, rfl, h4, hb4⟩
  rw [row_ab] at h4
  obtain ⟨k4, s4, n4, a4, m4, c4, rfl⟩ := h4.form
  obtain ⟨W5, hW5⟩ : ∃ W5, w4.alloc (.cells #[.int .i64 k4, .string s4, .int .i64 n4, .slice a4 m4 c4] 25) = W5 := ⟨_, rfl⟩
  have hB4 : Below w.heap.size w w4 := hB3.trans (hb4.mono hB3.size)
  have hB5 : Below w.heap.size w W5 := hW5 ▸ hB4.alloc hB4.size _
  have hz4 := hb4.size
  have hz5 : W5.heap.size = w4.heap.size + 1 := by rw [← hW5]; simp
  have b5 : Blk W5 w4.heap.size 25 #[.int .i64 k4, .string s4, .int .i64 n4, .slice a4 m4 c4] := hW5 ▸ Blk.new w4 25 _
  have hb45 : Below W3.heap.size W3 W5 := hW5 ▸ hb4.alloc hz4 _
  have bL5 := HL.out.below hb45 HL.out.lt
  have H4 := hide h4
  clear h4 hW3 HS
  go_wp2_with fail
  refine (say_n ⟨#[99]⟩ W5 (by decide)).mono ?_
  rintro e w6 ⟨k6, s6, n6, a6, m6, c6, rfl, -, hb6⟩
  have bL6 := bL5.below hb6 bL5.lt
  have q0 := bL6.cell 0
  have q1 := bL6.cell 1
  have q2 := bL6.cell 2
  have q3 := bL6.cell 3
  have hf := bL6.frozen
  have b6 := b5.below hb6 b5.lt
  obtain ⟨W7, hW7⟩ : ∃ W7, ((((w6.setCell ⟨w2.heap.size, 0, none⟩ (.int .i64 k6)).setCell ⟨w2.heap.size, 1, none⟩ (.string s6)).setCell ⟨w2.heap.size, 2, none⟩ (.int .i64 n6)).setCell ⟨w2.heap.size, 3, none⟩ (.slice a6 m6 c6)) = W7 := ⟨_, rfl⟩
  have hB6 : Below w.heap.size w w6 := hB5.trans (hb6.mono hB5.size)
  have hB7 : Below w.heap.size w W7 := hW7 ▸ below_put4 hB6 hB2.size _ _ _ _
  have hk7 : ∀ b, b ≠ w2.heap.size → W7.heap[b]? = w6.heap[b]? := fun b hb => hW7 ▸ heap_put4 w6 hb _ _ _ _
  have hz7 : W7.heap.size = w6.heap.size := by rw [← hW7]; exact size_put4 _ _ _ _ _ _
  have hz6 := hb6.size
  have hx7 : Is W7 (.mk 7 ByteArray.empty 0 (.cons (.mk 1 ⟨#[97]⟩ 0 .nil) (.cons (.mk 1 ⟨#[98]⟩ 0 .nil) (.cons (.mk 2 ByteArray.empty 0 .nil) .nil)))) (.agg #[.int .i64 k4, .string s4, .int .i64 n4, .slice a4 m4 c4]) := by
    have hZ := HZ.out
    refine IsDc.keep (fun b hb => ?_) _ _ H4.out
    rcases hb with hb | ⟨h1, h2⟩
    · exact hb.elim
    · refine ⟨by omega, (hk7 b (by omega)).trans ((hb6.block b (by omega)).trans ?_)⟩
      rw [← hW5]
      exact Below.heap_alloc w4 _ b h2
  have b7 : Blk W7 w4.heap.size 25 #[.int .i64 k4, .string s4, .int .i64 n4, .slice a4 m4 c4] := (hk7 _ (by have := HZ.out; omega)).trans b6
  have HB7 := hide b7
  have HX7 := hide hx7
  clear bL5 bL6 b5 b6 hW5 HL b7 hx7 hk7
  go_wp2_with fail
  refine (known_any W7).mono ?_
  rintro e w8 ⟨rfl, hb8⟩
  have hB8 : Below w.heap.size w w8 := hB7.trans (hb8.mono hB7.size)
  have b8 := HB7.out.below hb8 HB7.out.lt
  obtain ⟨p0, p1, p2, p3⟩ := b8.four
  have HX8 := hide (HX7.out.below hb8)
  clear b8 hW7 q0 q1 q2 q3 hf
  go_wp2_with fail
  refine (words_p _ _ w8 HX8.out (by rw [texts_ab]; decide)).mono ?_
  rintro e w9 ⟨rfl, hb9⟩
  rw [texts_ab]
  have hB9 : Below w.heap.size w w9 := hB8.trans (hb9.mono hB8.size)
  clear p0 p1 p2 p3
  have hsm : s.size ≤ maxLen := by simp only [maxLen]; omega
  have HSM := hide hsm
  clear hsm
  go_wp2_with fail
  refine (say_n s w9 HSM.out).mono ?_
  rintro e w10 ⟨k10, s10, n10, a10, m10, c10, rfl, h10, hb10⟩
  have hB10 : Below w.heap.size w w10 := hB9.trans (hb10.mono hB9.size)
  go_wp2_with fail
  refine (say_n ⟨#[120]⟩ w10 (by decide)).mono ?_
  rintro e w11 ⟨k11, s11, n11, a11, m11, c11, rfl, h11, hb11⟩
  have hB11 : Below w.heap.size w w11 := hB10.trans (hb11.mono hB10.size)
  rw [say_x] at h11
  have HS2 := hide (isl_lit (IsRow.two (h10.below hb11) h11) (by simp [maxLen]))
  clear h10 h11
  go_wp2_with fail
  refine (row_n HS2.out (by simp) (by simp)).mono ?_
  rintro e w12 ⟨k12, s12, n12, a12, m12, c12, rfl, h12, hb12⟩
  have hB12 : Below w.heap.size w w12 := (hB11.alloc hB11.size _).trans (hb12.mono (by simp; have := hB11.size; omega))
  have HX12 := hide h12
  clear h12 HS2 hb12
  go_wp2_with fail
  refine (words_p _ _ w12 HX12.out (by rw [texts_sx, List.length_append]; simp; omega)).mono ?_
  rintro e w13 ⟨rfl, hb13⟩
  rw [texts_sx, bytes_sx]
  have hB13 : Below w.heap.size w w13 := hB12.trans (hb13.mono hB12.size)
  go_wp2_with fail
  refine (say_n s w13 HSM.out).mono ?_
  rintro e w14 ⟨k14, s14, n14, a14, m14, c14, rfl, h14, hb14⟩
  have hB14 : Below w.heap.size w w14 := hB13.trans (hb14.mono hB13.size)
  have H14 := hide h14
  clear h14
  go_wp2_with fail
  refine (say_n s w14 HSM.out).mono ?_
  rintro e w15 ⟨k15, s15, n15, a15, m15, c15, rfl, h15, hb15⟩
  have hB15 : Below w.heap.size w w15 := hB14.trans (hb15.mono hB14.size)
  have H15 := hide h15
  clear h15
  go_wp2_with fail
  refine (same_n (H14.out.below hb15) H15.out).mono ?_
  rintro e w16 ⟨rfl, hb16⟩
  rw [sameD_refl]
  go_wp2_with fail
  go_ret
  exact ⟨rfl, hB15.trans (hb16.mono hB15.size)⟩
end Go.Proofs.Ytggbocimapdidaa
