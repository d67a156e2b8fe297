/-
  The walk of DocFlat: it gives true.
  Its condition: the slice reads as bytes.
-/
import Derived.Test.YtggbocimapdidaaGen
import Derived.Test.YtggbocimapdidaaAlike
import Derived.Deep.RegionHeld3
namespace Go.Proofs.Ytggbocimapdidaa
open Go.RowKit

theorem refRight_n {d : Dc} {v : Value} {w : World} (h : Is w d v) : Calls Try.prog 9 #[v] w (Says (rightD d) w) := refRight_any d v w h
theorem words_n {d : Dc} {v : Value} {w : World} (h : Is w d v) (ht : totD d ≤ 1000000000) : Calls Try.prog 13 #[v] w fun e w' => e = .returned (.string ⟨(textsL (leavesD d)).toArray⟩) ∧ Below w.heap.size w w' := words_p d v w h (Nat.le_trans (texts_tot d) ht)
theorem flat_n {d : Dc} {v : Value} {w : World} (h : Is w d v) (ht : totD d ≤ 1000000000) : Calls Try.prog 11 #[v] w fun e w' => e = .returned (flatP (leavesD d)) ∧ Below w.heap.size w w' := flat_p d v w h (Nat.le_trans (line_tot d) ht)
theorem refWords_n {d : Dc} {v : Value} {w : World} (h : Is w d v) (ht : totD d ≤ 1000000000) : Calls Try.prog 14 #[v] w fun e w' => e = .returned (.string (wordsD d)) ∧ Below w.heap.size w w' := words_any d v w h (Nat.le_trans (words_tot d) ht)
theorem refFlat_n {d : Dc} {v : Value} {w : World} (h : Is w d v) (ht : totD d ≤ 1000000000) : Calls Try.prog 12 #[v] w fun e w' => e = .returned (.tuple #[.string (if hardD d then ByteArray.empty else flatD d), .bool (!hardD d)]) ∧ Below w.heap.size w w' := refFlat_any d v w h (Nat.le_trans (flat_tot d) ht)

set_option maxHeartbeats 4000000 in
theorem flatw_any (a : Option Addr) (m cap : Nat) (c : List Int) (w : World) (hI : IsBytes w (· < w.heap.size) a m c) : Calls Try.prog 3 #[.slice a m cap] w (Says true w) := by
  have HG := hide (gen_any a m cap c w hI)
  clear hI
  go_enter Try.func3, Try.ntmps3
  go_wp2_with fail
  refine (unhide HG).mono ?_
  rintro e w1 ⟨d, hk7, ht, k1, s1, n1, a1, m1, c1, rfl, h1, hb1⟩
  obtain ⟨W2, hW2⟩ : ∃ W2, w1.alloc (.cells #[.int .i64 k1, .string s1, .int .i64 n1, .slice a1 m1 c1] 25) = W2 := ⟨_, rfl⟩
  have h2 : Is W2 d (.agg #[.int .i64 k1, .string s1, .int .i64 n1, .slice a1 m1 c1]) := hW2 ▸ h1.alloc _
  have hbk : Blk W2 w1.heap.size 25 #[.int .i64 k1, .string s1, .int .i64 n1, .slice a1 m1 c1] := hW2 ▸ Blk.new w1 25 _
  have hB2 : Below w.heap.size w W2 := hW2 ▸ hb1.alloc hb1.size _
  obtain ⟨p0, p1, p2, p3⟩ := hbk.four
  have H2 := hide h2
  have HB := hide hbk
  clear h1 h2 hbk hb1 HG hk7
  go_wp2_with fail
  refine (refRight_n H2.out).mono ?_
  rintro e w3 ⟨rfl, hb3⟩
  clear p0 p1 p2 p3 hW2
  have hB3 := hB2.trans (hb3.mono hB2.size)
  cases hr : rightD d with
  | false =>
    go_wp2_with fail
    refine (known_any w3).mono ?_
    rintro e w4 ⟨rfl, hb4⟩
    go_wp2_with fail
    go_ret
    exact ⟨rfl, hB3.trans (hb4.mono hB3.size)⟩
  | true =>
    obtain ⟨p0, p1, p2, p3⟩ := (HB.out.below hb3 HB.out.lt).four
    have H3 := hide (H2.out.below hb3)
    have hf := flat_alike hr
    have hw := words_alike hr
    have HF := hide hf
    have HW := hide hw
    clear hf hw hr
    go_wp2_with fail
    refine (flat_n H3.out (by omega)).mono ?_
    rintro e w4 ⟨rfl, hb4⟩
    rw [HF.out]
    obtain ⟨FS, hFS⟩ : ∃ FS, (if hardD d then ByteArray.empty else flatD d) = FS := ⟨_, rfl⟩
    obtain ⟨FB, hFB⟩ : ∃ FB, (!hardD d) = FB := ⟨_, rfl⟩
    rw [hFS, hFB]
    have H4 := hide (H3.out.below hb4)
    have hB34 : Below W2.heap.size W2 w4 := hb3.trans (hb4.mono hb3.size)
    clear p0 p1 p2 p3
    obtain ⟨p0, p1, p2, p3⟩ := (HB.out.below hB34 HB.out.lt).four
    have HFS := hide hFS
    have HFB := hide hFB
    clear hFS hFB
    go_wp2_with fail
    refine (refFlat_n H4.out (by omega)).mono ?_
    rintro e w5 ⟨rfl, hb5⟩
    rw [HFS.out, HFB.out]
    have H5 := hide (H4.out.below hb5)
    have hB35 : Below W2.heap.size W2 w5 := hB34.trans (hb5.mono hB34.size)
    have hB5 : Below w.heap.size w w5 := hB2.trans (hB35.mono hB2.size)
    clear p0 p1 p2 p3
    obtain ⟨q0, q1, q2, q3⟩ := (HB.out.below hB35 HB.out.lt).four
    obtain ⟨w6, hw6⟩ : ∃ w6, w5.drew = w6 := ⟨_, rfl⟩
    have hb6 : Below w5.heap.size w5 w6 := hw6 ▸ (Below.refl _ w5).drew
    have hB36 : Below W2.heap.size W2 w6 := hB35.trans (hb6.mono hB35.size)
    have H6 := hide (H5.out.below hb6)
    have HB6 := hide (HB.out.below hB36 HB.out.lt)
    have hB6 : Below w.heap.size w w6 := hB5.trans (hb6.mono hB5.size)
    clear hb3 hb4 hb5 hB34 hB35 hB36
    go_wp2_with fail
    refine wp_region_held_drew (S := fun w' => w'.cell? ⟨w1.heap.size, 0, none⟩ = some (.int .i64 k1) ∧ w'.cell? ⟨w1.heap.size, 1, none⟩ = some (.string s1) ∧ w'.cell? ⟨w1.heap.size, 2, none⟩ = some (.int .i64 n1) ∧ w'.cell? ⟨w1.heap.size, 3, none⟩ = some (.slice a1 m1 c1)) (by kernel_rfl) ?_ (fun hHeld => ?_)
    · exact ⟨q0, q1, q2, q3⟩
    rw [hw6] at hHeld ⊢
    refine wpAnyH_ready (rs := [0]) (by kernel_rfl) (by simp) ?_
    refine AllReadyH.cons rfl (fun K hK => ?_) AllReadyH.nil
    go_simp
    refine (known_any w6).mono ?_
    rintro e w7 ⟨rfl, hb7⟩
    have hS7 := (HB6.out.below hb7 HB6.out.lt).four
    have H7 := hide (H6.out.below hb7)
    have hB7 := hB6.trans (hb7.mono hB6.size)
    go_simp
    refine hK.out _ _ ?_ (fun hHeld => ?_)
    · exact hS7
    clear hK K
    refine wpAnyH_take (i := 1) (v := ?_) rfl (by kernel_rfl) (by kernel_rfl) (by kernel_rfl) (fun _ _ _ h => h) (Or.inl ⟨by rfl, ?_⟩) (by assumption) ?_
    rotate_left
    · intro w hSw; (try dsimp only at hSw); (try go_split_ands); go_simp
      all_goals with_reducible rfl
    try simp only [Act.put, List.getElem_toArray, List.getElem_cons_zero, List.getElem_cons_succ, List.setIfInBounds_toArray, List.set_cons_zero, List.set_cons_succ]
    refine wpAnyH_take (i := 2) (v := ?_) rfl (by kernel_rfl) (by kernel_rfl) (by kernel_rfl) (fun _ _ _ h => h) (Or.inl ⟨by rfl, ?_⟩) (by assumption) ?_
    rotate_left
    · intro w hSw; (try dsimp only at hSw); (try go_split_ands); go_simp
      all_goals with_reducible rfl
    try simp only [Act.put, List.getElem_toArray, List.getElem_cons_zero, List.getElem_cons_succ, List.setIfInBounds_toArray, List.set_cons_zero, List.set_cons_succ]
    refine wpAnyH_take (i := 3) (v := ?_) rfl (by kernel_rfl) (by kernel_rfl) (by kernel_rfl) (fun _ _ _ h => h) (Or.inl ⟨by rfl, ?_⟩) (by assumption) ?_
    rotate_left
    · intro w hSw; (try dsimp only at hSw); (try go_split_ands); go_simp
      all_goals with_reducible rfl
    try simp only [Act.put, List.getElem_toArray, List.getElem_cons_zero, List.getElem_cons_succ, List.setIfInBounds_toArray, List.set_cons_zero, List.set_cons_succ]
    refine wpAnyH_take (i := 4) (v := ?_) rfl (by kernel_rfl) (by kernel_rfl) (by kernel_rfl) (fun _ _ _ h => h) (Or.inl ⟨by rfl, ?_⟩) (by assumption) ?_
    rotate_left
    · intro w hSw; (try dsimp only at hSw); (try go_split_ands); go_simp
      all_goals with_reducible rfl
    try simp only [Act.put, List.getElem_toArray, List.getElem_cons_zero, List.getElem_cons_succ, List.setIfInBounds_toArray, List.set_cons_zero, List.set_cons_succ]
    refine wpAnyH_take (i := 5) (v := ?_) rfl (by kernel_rfl) (by kernel_rfl) (by kernel_rfl) (fun _ _ _ h => h) (Or.inl ⟨by rfl, ?_⟩) (by assumption) ?_
    rotate_left
    · intro w hSw; (try dsimp only at hSw); (try go_split_ands); go_simp
      all_goals with_reducible rfl
    try simp only [Act.put, List.getElem_toArray, List.getElem_cons_zero, List.getElem_cons_succ, List.setIfInBounds_toArray, List.set_cons_zero, List.set_cons_succ]
    refine wpAnyH_take (i := 6) (v := ?_) rfl (by kernel_rfl) (by kernel_rfl) (by kernel_rfl) (fun _ _ _ h => h) (Or.inl ⟨by rfl, ?_⟩) (by assumption) ?_
    rotate_left
    · intro w hSw; (try dsimp only at hSw); (try go_split_ands); go_simp
      all_goals with_reducible rfl
    try simp only [Act.put, List.getElem_toArray, List.getElem_cons_zero, List.getElem_cons_succ, List.setIfInBounds_toArray, List.set_cons_zero, List.set_cons_succ]
    refine wpAnyH_take (i := 7) (v := ?_) rfl (by kernel_rfl) (by kernel_rfl) (by kernel_rfl) (fun _ _ _ h => h) (Or.inl ⟨by rfl, ?_⟩) (by assumption) ?_
    rotate_left
    · intro w hSw; (try dsimp only at hSw); (try go_split_ands); go_simp
      all_goals with_reducible rfl
    try simp only [Act.put, List.getElem_toArray, List.getElem_cons_zero, List.getElem_cons_succ, List.setIfInBounds_toArray, List.set_cons_zero, List.set_cons_succ]
    refine wpAnyH_take (i := 8) (v := ?_) rfl (by kernel_rfl) (by kernel_rfl) (by kernel_rfl) (fun _ _ _ h => h) (Or.inl ⟨by rfl, ?_⟩) (by assumption) ?_
    rotate_left
    · intro w hSw; (try dsimp only at hSw); (try go_split_ands); go_simp
      all_goals with_reducible rfl
    try simp only [Act.put, List.getElem_toArray, List.getElem_cons_zero, List.getElem_cons_succ, List.setIfInBounds_toArray, List.set_cons_zero, List.set_cons_succ]
    refine wpAnyH_take (i := 9) (v := ?_) rfl (by kernel_rfl) (by kernel_rfl) (by kernel_rfl) (fun _ _ _ h => h) (Or.inl ⟨by rfl, ?_⟩) (by assumption) ?_
    rotate_left
    · intro w hSw; (try dsimp only at hSw); (try go_split_ands); go_simp
      all_goals with_reducible rfl
    try simp only [Act.put, List.getElem_toArray, List.getElem_cons_zero, List.getElem_cons_succ, List.setIfInBounds_toArray, List.set_cons_zero, List.set_cons_succ]
    refine wpAnyH_take (i := 10) (v := ?_) rfl (by kernel_rfl) (by kernel_rfl) (by kernel_rfl) (fun _ _ _ h => h) (Or.inl ⟨by rfl, ?_⟩) (by assumption) ?_
    rotate_left
    · intro w hSw; (try dsimp only at hSw); (try go_split_ands); go_simp
      all_goals with_reducible rfl
    try simp only [Act.put, List.getElem_toArray, List.getElem_cons_zero, List.getElem_cons_succ, List.setIfInBounds_toArray, List.set_cons_zero, List.set_cons_succ]
    refine wpAnyH_take (i := 11) (v := ?_) rfl (by kernel_rfl) (by kernel_rfl) (by kernel_rfl) (fun _ _ _ h => h) (Or.inl ⟨by rfl, ?_⟩) (by assumption) ?_
    rotate_left
    · intro w hSw; (try dsimp only at hSw); (try go_split_ands); go_simp
      all_goals with_reducible rfl
    try simp only [Act.put, List.getElem_toArray, List.getElem_cons_zero, List.getElem_cons_succ, List.setIfInBounds_toArray, List.set_cons_zero, List.set_cons_succ]
    refine wpAnyH_take (i := 12) (v := ?_) rfl (by kernel_rfl) (by kernel_rfl) (by kernel_rfl) (fun _ _ _ h => h) (Or.inl ⟨by rfl, ?_⟩) (by assumption) ?_
    rotate_left
    · intro w hSw; (try dsimp only at hSw); (try go_split_ands); go_simp
      all_goals with_reducible rfl
    try simp only [Act.put, List.getElem_toArray, List.getElem_cons_zero, List.getElem_cons_succ, List.setIfInBounds_toArray, List.set_cons_zero, List.set_cons_succ]
    refine wpAnyH_take (i := 14) (v := ?_) rfl (by kernel_rfl) (by kernel_rfl) (by kernel_rfl) (fun _ _ _ h => h) (Or.inl ⟨by rfl, ?_⟩) (by assumption) ?_
    rotate_left
    · intro w hSw; (try dsimp only at hSw); (try go_split_ands); go_simp
      all_goals with_reducible rfl
    try simp only [Act.put, List.getElem_toArray, List.getElem_cons_zero, List.getElem_cons_succ, List.setIfInBounds_toArray, List.set_cons_zero, List.set_cons_succ]
    refine wpAnyH_ready (rs := [13]) (by kernel_rfl) (by simp) ?_
    refine AllReadyH.cons rfl (fun K hK => ?_) AllReadyH.nil
    go_simp
    refine (words_n H7.out (by omega)).mono ?_
    rintro e w8 ⟨rfl, hb8⟩
    rw [HW.out]
    have hb78 := hb7.trans (hb8.mono hb7.size)
    have hS8 := (HB6.out.below hb78 HB6.out.lt).four
    have H8 := hide (H7.out.below hb8)
    have hB8 := hB7.trans (hb8.mono hB7.size)
    go_simp
    refine hK.out _ _ ?_ (fun hHeld => ?_)
    · exact hS8
    clear hK K
    refine wpAnyH_ready (rs := [15]) (by kernel_rfl) (by simp) ?_
    refine AllReadyH.cons rfl (fun K hK => ?_) AllReadyH.nil
    go_simp
    refine (refWords_n H8.out (by omega)).mono ?_
    rintro e w9 ⟨rfl, hb9⟩
    have hb79 := hb78.trans (hb9.mono hb78.size)
    have hS9 := (HB6.out.below hb79 HB6.out.lt).four
    have hB9 := hB8.trans (hb9.mono hB8.size)
    go_simp
    refine hK.out _ _ ?_ (fun hHeld => ?_)
    · exact hS9
    clear hK K
    refine wpAnyH_take (i := 16) (v := ?_) rfl (by kernel_rfl) (by kernel_rfl) (by kernel_rfl) (fun _ _ _ h => h) (Or.inl ⟨by rfl, ?_⟩) (by assumption) ?_
    rotate_left
    · intro w hSw; (try dsimp only at hSw); (try go_split_ands); go_simp
      all_goals with_reducible rfl
    try simp only [Act.put, List.getElem_toArray, List.getElem_cons_zero, List.getElem_cons_succ, List.setIfInBounds_toArray, List.set_cons_zero, List.set_cons_succ]
    refine wpAnyH_take (i := 17) (v := ?_) rfl (by kernel_rfl) (by kernel_rfl) (by kernel_rfl) (fun _ _ _ h => h) (Or.inl ⟨by rfl, ?_⟩) (by assumption) ?_
    rotate_left
    · intro w hSw; (try dsimp only at hSw); (try go_split_ands); go_simp
      all_goals with_reducible rfl
    try simp only [Act.put, List.getElem_toArray, List.getElem_cons_zero, List.getElem_cons_succ, List.setIfInBounds_toArray, List.set_cons_zero, List.set_cons_succ]
    refine wpAnyH_take (i := 18) (v := ?_) rfl (by kernel_rfl) (by kernel_rfl) (by kernel_rfl) (fun _ _ _ h => h) (Or.inl ⟨by rfl, ?_⟩) (by assumption) ?_
    rotate_left
    · intro w hSw; (try dsimp only at hSw); (try go_split_ands); go_simp
      all_goals with_reducible rfl
    try simp only [Act.put, List.getElem_toArray, List.getElem_cons_zero, List.getElem_cons_succ, List.setIfInBounds_toArray, List.set_cons_zero, List.set_cons_succ]
    refine wpAnyH_done (by kernel_rfl) ?_ _
    go_wp2_with fail
    go_ret
    exact ⟨rfl, hB9⟩
end Go.Proofs.Ytggbocimapdidaa
