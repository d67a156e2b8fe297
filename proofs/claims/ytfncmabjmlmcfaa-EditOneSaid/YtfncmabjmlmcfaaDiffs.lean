/-
  The walk of EditDiffs: it gives true.
  Its conditions: the texts have at most 140737488351232 bytes each; the slice reads as bytes.
-/
import Derived.Test.YtfncmabjmlmcfaaKnown
import Derived.Test.YtfncmabjmlmcfaaEdits
namespace Go.Proofs.Ytfncmabjmlmcfaa
open Go.RowKit Go.Shelf

theorem below_drewN {B : Nat} {w w' : World} (h : Below B w w') (n : Nat) : Below B w (w'.drewN n) := ⟨h.os, h.tape, h.output, h.size, h.block⟩

/-- Known, from a base that lies deeper. -/
theorem known_at (B : Nat) (W w : World) (hb : Below B W w) (hB : B ≤ w.heap.size) : Calls Try.prog 11 #[] w fun e w' => e = .returned (.bool true) ∧ Below B W w' ∧ w.heap.size ≤ w'.heap.size ∧ Below w.heap.size w w' :=
  (known_any w).mono fun e w' ⟨he, h⟩ => ⟨he, hb.trans (h.mono hB), h.size, h⟩

theorem edsL_small (n : Int) : ∀ (k : Nat) (p : Int) (c : List Int), (edsL n k p c).length ≤ k ∧ ∀ e ∈ edsL n k p c, e.text.size ≤ 4
  | 0, p, c => by simp [edsL]
  | k + 1, p, [] => by simp [edsL]
  | k + 1, p, [_] => by simp [edsL]
  | k + 1, p, [_, _] => by simp [edsL]
  | k + 1, p, c0 :: c1 :: c2 :: r => by
    rw [edsL]
    split
    · simp
    · have ih := edsL_small n k (nextAt (p + c0 % 4) (p + c0 % 4 + c1 % 4) c2) r
      refine ⟨by simp only [List.length_cons]; omega, ?_⟩
      intro e he
      rcases List.mem_cons.1 he with rfl | he
      · simp only []
        rw [ByteArray.size_extract]; have : xyzw.size = 4 := rfl; omega
      · exact ih.2 e he

theorem applyGo_size (s : ByteArray) : ∀ (l : List Ed) (p : Nat) (out : ByteArray), (∀ e ∈ l, e.text.size ≤ 4) → (applyGo s p out l).size ≤ out.size + (l.length + 1) * (s.size + 4)
  | [], p, out, _ => by simp only [applyGo, ByteArray.size_append, ByteArray.size_extract, List.length_nil]; omega
  | e :: r, p, out, h => by
    rw [applyGo]
    refine Nat.le_trans (applyGo_size s r _ _ (fun x hx => h x (List.mem_cons_of_mem _ hx))) ?_
    have := h e (List.mem_cons_self ..)
    simp only [ByteArray.size_append, ByteArray.size_extract, List.length_cons]
    have : (r.length + 1 + 1) * (s.size + 4) = (r.length + 1) * (s.size + 4) + (s.size + 4) := by rw [Nat.add_mul, Nat.one_mul]
    omega

/-- Two slices that read alike are told as the same. -/
theorem same_yes (a b : Option Addr) (m n cap cap' : Nat) (l : List Ed) (w : World) (hI : IsEds w (· < w.heap.size) a m l) (hJ : IsEds w (· < w.heap.size) b n l) :
    Calls Try.prog 14 #[.slice a m cap, .slice b n cap'] w fun e w' => e = .returned (.bool true) ∧ ∃ j, w' = w.drewN j :=
  (same_any a b m n cap cap' l l w hI hJ).mono fun e w' h => by rw [eqEds_refl] at h; exact h

theorem IsEds.lt_ {w : World} {B : Nat} {a : Option Addr} {n : Nat} {l : List Ed} (h : IsEds w (fun b => B ≤ b ∧ b < w.heap.size) a n l) : IsEds w (· < w.heap.size) a n l :=
  h.keep fun b hb => ⟨hb.2, rfl⟩
theorem IsEds.on {w w' : World} {a : Option Addr} {n : Nat} {l : List Ed} (h : IsEds w (· < w.heap.size) a n l) (hb : Below w.heap.size w w') : IsEds w' (· < w'.heap.size) a n l :=
  h.keep fun b hlt => ⟨by have := hb.size; omega, hb.block b hlt⟩
theorem IsBytes.on {w w' : World} {a : Option Addr} {n : Nat} {l : List Int} (h : IsBytes w (· < w.heap.size) a n l) (hb : Below w.heap.size w w') : IsBytes w' (· < w'.heap.size) a n l := by
  obtain ⟨h0, h1, hf, hc⟩ := h
  refine ⟨h0, h1, hf, fun hne => ?_⟩
  obtain ⟨b, o, ha, hlt, hcell⟩ := hc hne
  refine ⟨b, o, ha, by have := hb.size; omega, fun k x hk => ?_⟩
  rw [hb.cell (p := ⟨b, o + k, none⟩) hlt]
  exact hcell k x hk

set_option maxHeartbeats 1000000 in
theorem diffs_any (s t : ByteArray) (a : Option Addr) (m cap : Nat) (c : List Int) (w : World) (hs : s.size ≤ 140737488351232) (ht : t.size ≤ 140737488351232) (hI : IsBytes w (· < w.heap.size) a m c) :
    Calls Try.prog 3 #[.string s, .string t, .slice a m cap] w fun e w' => e = .returned (.bool true) ∧ Below w.heap.size w w' := by
  by_cases hbig : 400 < s.size + t.size
  · go_enter Try.func3, Try.ntmps3
    go_wp2_with fail
    refine (known_any w).mono ?_
    rintro e w1 ⟨rfl, hb⟩
    go_wp2_with fail
    go_ret
    exact ⟨rfl, hb⟩
  · go_enter Try.func3, Try.ntmps3
    go_wp2_with fail
    refine (known_any w).mono ?_
    rintro e w1 ⟨rfl, hb1⟩
    go_wp2_with fail
    refine (edits_any a m cap c s.size w1 (hI.on hb1)).mono ?_
    rintro e w2 ⟨a2, n2, c2, rfl, hE, hb2⟩
    have hB2 := hb1.trans (hb2.mono hb1.size)
    have hsm := edsL_small s.size 10 0 c
    go_wp2_with fail
    have key : Calls Try.prog 12 #[.string s, .slice a2 n2 c2] w2 fun e w' => ∃ (z : ByteArray) (k : Int), e = .returned (.tuple #[.string z, .int .i64 k]) ∧ z.size ≤ 1000000 ∧ ∃ j, w' = w2.drewN j := by
      by_cases hr : rightB (edsL s.size 10 0 c) s.size = true
      · refine (refApply_yes s a2 n2 c2 _ w2 hE.lt_ hr (by omega) (fun e he => by have := hsm.2 e he; omega)).mono ?_
        rintro e w' ⟨rfl, hj⟩
        refine ⟨_, _, rfl, ?_, hj⟩
        have h1 := applyGo_size s (edsL s.size 10 0 c) 0 ByteArray.empty hsm.2
        have h2 : ((edsL s.size 10 0 c).length + 1) * (s.size + 4) ≤ 11 * 404 := Nat.mul_le_mul (by omega) (by omega)
        have h3 : ByteArray.empty.size = 0 := rfl
        unfold applyB
        omega
      · refine (refApply_no s a2 n2 c2 _ w2 hE.lt_ (by simpa using hr) (by simp only [maxLen]; omega)).mono ?_
        rintro e w' ⟨rfl, hj⟩
        exact ⟨_, _, rfl, by decide, hj⟩
    refine key.mono ?_
    rintro e w' ⟨z, k, rfl, hz, j, rfl⟩
    clear key hsm
    have hB3 : Below w.heap.size w (w2.drewN j) := below_drewN hB2 j
    clear hb1 hb2 hE hB2
    generalize w2.drewN j = w3 at hB3
    go_wp2_with fail
    refine (diff_any s t w3 (by omega) (by omega)).mono ?_
    rintro e w4 ⟨a4, n4, c4, rfl, h4, hb4⟩
    have hB4 := hB3.trans (hb4.mono hB3.size)
    go_wp2_with fail
    refine (refDiff_any s t w4 (by omega) (by omega)).mono ?_
    rintro e w5 ⟨a5, n5, c5, rfl, h5, hb5⟩
    have hB5 := hB4.trans (hb5.mono hB4.size)
    have h4' := h4.lt_.on hb5
    have h5' := h5.lt_
    clear h4 h5 hb4 hb5 hB3 hB4
    go_wp2_with fail
    refine (same_yes a4 a5 n4 n5 c4 c5 _ w5 h4' h5').mono ?_
    rintro e w' ⟨rfl, j, rfl⟩
    have hB6 := below_drewN hB5 j
    clear h4' h5' hB5
    generalize w5.drewN j = w6 at hB6
    go_wp2_with fail
    refine (diff_any s z w6 (by omega) (by omega)).mono ?_
    rintro e w7 ⟨a7, n7, c7, rfl, h7, hb7⟩
    have hB7 := hB6.trans (hb7.mono hB6.size)
    go_wp2_with fail
    refine (refDiff_any s z w7 (by omega) (by omega)).mono ?_
    rintro e w8 ⟨a8, n8, c8, rfl, h8, hb8⟩
    have hB8 := hB7.trans (hb8.mono hB7.size)
    have h7' := h7.lt_.on hb8
    have h8' := h8.lt_
    clear h7 h8 hb7 hb8 hB6 hB7
    go_wp2_with fail
    refine (same_yes a7 a8 n7 n8 c7 c8 _ w8 h7' h8').mono ?_
    rintro e w' ⟨rfl, j, rfl⟩
    go_wp2_with fail
    go_ret
    exact ⟨rfl, below_drewN hB8 j⟩
end Go.Proofs.Ytfncmabjmlmcfaa
