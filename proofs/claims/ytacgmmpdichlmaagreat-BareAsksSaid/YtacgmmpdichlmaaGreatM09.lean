/-
  The law's generator of programs: Post. Its condition: the generator's variable as GenA has it; what it calls answers with at most N bytes.
-/
import Derived.Test.YtacgmmpdichlmaaGreatM04
namespace Go.Proofs.YtacgmmpdichlmaaGreat
open Go.RowKit
attribute [local go_sem ↓] Go.wp_at_zero Go.wp_at_succ

section
variable {B g : Nat} {a : Option Addr} {m cap : Nat} {c : List Int} {W X : World} {n : Int} {N : Nat}
set_option maxRecDepth 100000 in
set_option maxHeartbeats 4000000 in
theorem gpost (K : Hid (Kg B g a m cap c W n N)) (h : Gg B g a m cap c W X) (d : Int) (hd : -1 ≤ d) (hdn : d - 1 ≤ n) : Calls Tryz.prog 61 #[.pointer (some ⟨g, 0, none⟩), .int .i64 d] X (GT B g a m cap c W (10 * N)) := by
  have hN := K.out.hi
  have hL := K.out.lo
  have hT := K.out.top
  have e1 : IntKind.i64.wrap (d - 1) = d - 1 := IntWalk.i64_in _ (by omega)
  by_cases hg : 0 < d
  · have hd0 : ¬ d ≤ 0 := by omega
    go_enter Tryz.func61, Tryz.ntmps61
    go_wp2_with fail
    refine (gnext h 16).mono ?_
    rintro e X1 ⟨⟨r1, rfl, hr1, hs1⟩, hX1⟩
    obtain rfl | rfl | rfl | rfl | rfl | rfl | rfl | rfl | rfl | rfl | rfl | rfl | rfl | rfl | rfl | rfl : r1 = 0 ∨ r1 = 1 ∨ r1 = 2 ∨ r1 = 3 ∨ r1 = 4 ∨ r1 = 5 ∨ r1 = 6 ∨ r1 = 7 ∨ r1 = 8 ∨ r1 = 9 ∨ r1 = 10 ∨ r1 = 11 ∨ r1 = 12 ∨ r1 = 13 ∨ r1 = 14 ∨ r1 = 15 := by omega
    ·
      go_wp2_with fail
      refine (K.out.pipe (d - 1) (by omega) (by omega) hX1).mono ?_
      rintro e X2 ⟨⟨s2, rfl, h2⟩, hX2⟩
      go_wp2_with fail
      go_ret
      exact ⟨⟨_, rfl, by first | omega | (simp only [ByteArray.size_append, bsz, List.size_toArray, List.length_cons, List.length_nil]; omega)⟩, hX2⟩
    ·
      go_wp2_with fail
      refine (gobject K hX1 (d - 1) (by omega) (by omega)).mono ?_
      rintro e X2 ⟨⟨s2, rfl, h2⟩, hX2⟩
      go_wp2_with fail
      go_ret
      exact ⟨⟨_, rfl, by first | omega | (simp only [ByteArray.size_append, bsz, List.size_toArray, List.length_cons, List.length_nil]; omega)⟩, hX2⟩
    ·
      go_wp2_with fail
      refine (K.out.pipe (d - 1) (by omega) (by omega) hX1).mono ?_
      rintro e X2 ⟨⟨s2, rfl, h2⟩, hX2⟩
      go_wp2_with fail
      refine (K.out.pipe (d - 1) (by omega) (by omega) hX2).mono ?_
      rintro e X3 ⟨⟨s3, rfl, h3⟩, hX3⟩
      go_wp2_with fail
      refine (K.out.pipe (d - 1) (by omega) (by omega) hX3).mono ?_
      rintro e X4 ⟨⟨s4, rfl, h4⟩, hX4⟩
      go_wp2_with fail
      go_ret
      exact ⟨⟨_, rfl, by first | omega | (simp only [ByteArray.size_append, bsz, List.size_toArray, List.length_cons, List.length_nil]; omega)⟩, hX4⟩
    ·
      go_wp2_with fail
      refine (K.out.pipe (d - 1) (by omega) (by omega) hX1).mono ?_
      rintro e X2 ⟨⟨s2, rfl, h2⟩, hX2⟩
      go_wp2_with fail
      refine (K.out.pipe (d - 1) (by omega) (by omega) hX2).mono ?_
      rintro e X3 ⟨⟨s3, rfl, h3⟩, hX3⟩
      go_wp2_with fail
      go_ret
      exact ⟨⟨_, rfl, by first | omega | (simp only [ByteArray.size_append, bsz, List.size_toArray, List.length_cons, List.length_nil]; omega)⟩, hX3⟩
    ·
      go_wp2_with fail
      refine (K.out.post (d - 1) (by omega) (by omega) hX1).mono ?_
      rintro e X2 ⟨⟨s2, rfl, h2⟩, hX2⟩
      go_wp2_with fail
      refine (gpattern K hX2 (d - 1) (by omega) (by omega)).mono ?_
      rintro e X3 ⟨⟨s3, rfl, h3⟩, hX3⟩
      go_wp2_with fail
      refine (K.out.pipe (d - 1) (by omega) (by omega) hX3).mono ?_
      rintro e X4 ⟨⟨s4, rfl, h4⟩, hX4⟩
      go_wp2_with fail
      refine (K.out.pipe (d - 1) (by omega) (by omega) hX4).mono ?_
      rintro e X5 ⟨⟨s5, rfl, h5⟩, hX5⟩
      go_wp2_with fail
      go_ret
      exact ⟨⟨_, rfl, by first | omega | (simp only [ByteArray.size_append, bsz, List.size_toArray, List.length_cons, List.length_nil]; omega)⟩, hX5⟩
    ·
      go_wp2_with fail
      refine (K.out.post (d - 1) (by omega) (by omega) hX1).mono ?_
      rintro e X2 ⟨⟨s2, rfl, h2⟩, hX2⟩
      go_wp2_with fail
      refine (gname hX2).mono ?_
      rintro e X3 ⟨⟨s3, rfl, h3⟩, hX3⟩
      go_wp2_with fail
      refine (K.out.pipe (d - 1) (by omega) (by omega) hX3).mono ?_
      rintro e X4 ⟨⟨s4, rfl, h4⟩, hX4⟩
      go_wp2_with fail
      refine (K.out.pipe (d - 1) (by omega) (by omega) hX4).mono ?_
      rintro e X5 ⟨⟨s5, rfl, h5⟩, hX5⟩
      go_wp2_with fail
      go_ret
      exact ⟨⟨_, rfl, by first | omega | (simp only [ByteArray.size_append, bsz, List.size_toArray, List.length_cons, List.length_nil]; omega)⟩, hX5⟩
    ·
      go_wp2_with fail
      refine (gname hX1).mono ?_
      rintro e X2 ⟨⟨s2, rfl, h2⟩, hX2⟩
      go_wp2_with fail
      refine (gargs K hX2 (d - 1) (by omega) (by omega)).mono ?_
      rintro e X3 ⟨⟨s3, rfl, h3⟩, hX3⟩
      go_wp2_with fail
      go_ret
      exact ⟨⟨_, rfl, by first | omega | (simp only [ByteArray.size_append]; omega)⟩, hX3⟩
    ·
      go_wp2_with fail
      refine (K.out.pipe (d - 1) (by omega) (by omega) hX1).mono ?_
      rintro e X2 ⟨⟨s2, rfl, h2⟩, hX2⟩
      go_wp2_with fail
      go_ret
      exact ⟨⟨_, rfl, by first | omega | (simp only [ByteArray.size_append, bsz, List.size_toArray, List.length_cons, List.length_nil]; omega)⟩, hX2⟩
    ·
      go_wp2_with fail
      refine (K.out.post (d - 1) (by omega) (by omega) hX1).mono ?_
      rintro e X2 ⟨⟨s2, rfl, h2⟩, hX2⟩
      go_wp2_with fail
      refine (K.out.pipe (d - 1) (by omega) (by omega) hX2).mono ?_
      rintro e X3 ⟨⟨s3, rfl, h3⟩, hX3⟩
      go_wp2_with fail
      go_ret
      exact ⟨⟨_, rfl, by first | omega | (simp only [ByteArray.size_append, bsz, List.size_toArray, List.length_cons, List.length_nil]; omega)⟩, hX3⟩
    ·
      go_wp2_with fail
      refine (K.out.post (d - 1) (by omega) (by omega) hX1).mono ?_
      rintro e X2 ⟨⟨s2, rfl, h2⟩, hX2⟩
      go_wp2_with fail
      refine (gof hX2).mono ?_
      rintro e X3 ⟨⟨s3, rfl, h3⟩, hX3⟩
      go_wp2_with fail
      go_ret
      exact ⟨⟨_, rfl, by first | omega | (simp only [ByteArray.size_append]; omega)⟩, hX3⟩
    ·
      go_wp2_with fail
      refine (K.out.pipe (d - 1) (by omega) (by omega) hX1).mono ?_
      rintro e X2 ⟨⟨s2, rfl, h2⟩, hX2⟩
      go_wp2_with fail
      go_ret
      exact ⟨⟨_, rfl, by first | omega | (simp only [ByteArray.size_append, bsz, List.size_toArray, List.length_cons, List.length_nil]; omega)⟩, hX2⟩
    ·
      go_wp2_with fail
      refine (gname hX1).mono ?_
      rintro e X2 ⟨⟨s2, rfl, h2⟩, hX2⟩
      go_wp2_with fail
      go_ret
      exact ⟨⟨_, rfl, by first | omega | (simp only [ByteArray.size_append, bsz, List.size_toArray, List.length_cons, List.length_nil]; omega)⟩, hX2⟩
    ·
      go_wp2_with fail
      refine (gname hX1).mono ?_
      rintro e X2 ⟨⟨s2, rfl, h2⟩, hX2⟩
      go_wp2_with fail
      go_ret
      exact ⟨⟨_, rfl, by first | omega | (simp only [ByteArray.size_append, bsz, List.size_toArray, List.length_cons, List.length_nil]; omega)⟩, hX2⟩
    ·
      go_wp2_with fail
      refine (gname hX1).mono ?_
      rintro e X2 ⟨⟨s2, rfl, h2⟩, hX2⟩
      go_wp2_with fail
      go_ret
      exact ⟨⟨_, rfl, by first | omega | (simp only [ByteArray.size_append, bsz, List.size_toArray, List.length_cons, List.length_nil]; omega)⟩, hX2⟩
    ·
      go_wp2_with fail
      refine (gname hX1).mono ?_
      rintro e X2 ⟨⟨s2, rfl, h2⟩, hX2⟩
      go_wp2_with fail
      go_ret
      exact ⟨⟨_, rfl, by first | omega | (simp only [ByteArray.size_append, bsz, List.size_toArray, List.length_cons, List.length_nil]; omega)⟩, hX2⟩
    ·
      go_wp2_with fail
      refine (gname hX1).mono ?_
      rintro e X2 ⟨⟨s2, rfl, h2⟩, hX2⟩
      go_wp2_with fail
      go_ret
      exact ⟨⟨_, rfl, by first | omega | (simp only [ByteArray.size_append, bsz, List.size_toArray, List.length_cons, List.length_nil]; omega)⟩, hX2⟩
  · have hd0 : d ≤ 0 := by omega
    go_enter Tryz.func61, Tryz.ntmps61
    go_wp2_with fail
    refine (gof h).mono ?_
    rintro e X1 ⟨⟨s1, rfl, h1⟩, hX1⟩
    go_wp2_with fail
    go_ret
    exact ⟨⟨_, rfl, by first | omega | (simp only [ByteArray.size_append, bsz, List.size_toArray, List.length_cons, List.length_nil]; omega)⟩, hX1⟩
end
end Go.Proofs.YtacgmmpdichlmaaGreat
