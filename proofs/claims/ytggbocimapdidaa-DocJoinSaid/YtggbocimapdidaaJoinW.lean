/-
  The walk of DocJoin: it gives true.
  Its conditions: the slices read as bytes; the number fits its kind.
-/
import Derived.Test.YtggbocimapdidaaGen
import Derived.Test.YtggbocimapdidaaTwo
import Derived.Deep.RegionHeld3
import Derived.Deep.CutRange
import Derived.IntWalk
namespace Go.Proofs.Ytggbocimapdidaa
open Go.RowKit

theorem IsBytes.later {w w' : World} {a : Option Addr} {n : Nat} {c : List Int} (h : IsBytes w (· < w.heap.size) a n c) (hb : Below w.heap.size w w') : IsBytes w' (· < w'.heap.size) a n c := by
  refine ⟨h.1, h.2.1, h.2.2.1, fun hne => ?_⟩
  obtain ⟨b, o, ha, hF, hc⟩ := h.2.2.2 hne
  exact ⟨b, o, ha, Nat.lt_of_lt_of_le hF hb.size, fun k x hk => (hb.cell (p := ⟨b, o + k, none⟩) hF).trans (hc k x hk)⟩
theorem right_m {d : Dc} {v : Value} {w : World} (h : Is w d v) : Calls Try.prog 18 #[v] w (Says (rightD d) w) := right_any d v w h
theorem words_m {d : Dc} {v : Value} {w : World} (h : Is w d v) (ht : totD d ≤ 1000000000) : Calls Try.prog 13 #[v] w fun e w' => e = .returned (.string ⟨(textsL (leavesD d)).toArray⟩) ∧ Below w.heap.size w w' := words_p d v w h (Nat.le_trans (texts_tot d) ht)
theorem same_m {d d' : Dc} {v v' : Value} {w : World} (h : Is w d v) (h' : Is w d' v') : Calls Try.prog 17 #[v, v'] w (Says (sameD d d') w) := same_any d d' v v' w h h'
mutual
theorem same_self : ∀ d : Dc, sameD d d = true
  | .mk k s n ks => by rw [sameD, sames_self ks]; simp
theorem sames_self : ∀ ks : Dcs, sameDs ks ks = true
  | .nil => by rw [sameDs]
  | .cons d r => by rw [sameDs, same_self d, sames_self r]; rfl
end
theorem flat_m {d : Dc} {v : Value} {w : World} (h : Is w d v) (ht : totD d ≤ 1000000000) : Calls Try.prog 11 #[v] w fun e w' => e = .returned (flatP (leavesD d)) ∧ Below w.heap.size w w' := flat_p d v w h (Nat.le_trans (line_tot d) ht)
theorem hardL_append2 (a b : List Dc) : hardL (a ++ b) = (hardL a || hardL b) := by simp [hardL]
theorem arr_append (a b : List UInt8) : (⟨(a ++ b).toArray⟩ : ByteArray) = ⟨a.toArray⟩ ++ ⟨b.toArray⟩ := by
  apply ByteArray.ext
  simp
theorem size_arr (l : List UInt8) : (⟨l.toArray⟩ : ByteArray).size = l.length := rfl

set_option maxHeartbeats 8000000 in
set_option maxRecDepth 100000 in
theorem join_any (a : Option Addr) (m cap : Nat) (c : List Int) (a' : Option Addr) (m' cap' : Nat) (c' : List Int) (n : Int) (hn : -128 ≤ n ∧ n ≤ 127) (w : World) (hI : IsBytes w (· < w.heap.size) a m c) (hI' : IsBytes w (· < w.heap.size) a' m' c') :
    Calls Try.prog 5 #[.slice a m cap, .slice a' m' cap', .int .i8 n] w (Says true w) := by
  have HG := hide (gen_any a m cap c w hI)
  have HI' := hide hI'
  clear hI hI'
  go_enter Try.func5, Try.ntmps5
  go_wp2_with fail
  refine (unhide HG).mono ?_
  rintro e w1 ⟨da, hka, hta, k1, s1, n1, a1, m1, c1, rfl, h1, hb1⟩
  obtain ⟨W2, hW2⟩ : ∃ W2, w1.alloc (.cells #[.int .i64 k1, .string s1, .int .i64 n1, .slice a1 m1 c1] 25) = W2 := ⟨_, rfl⟩
  have h2 : Is W2 da (.agg #[.int .i64 k1, .string s1, .int .i64 n1, .slice a1 m1 c1]) := hW2 ▸ h1.alloc _
  have hbk : Blk W2 w1.heap.size 25 #[.int .i64 k1, .string s1, .int .i64 n1, .slice a1 m1 c1] := hW2 ▸ Blk.new w1 25 _
  have hB2 : Below w.heap.size w W2 := hW2 ▸ hb1.alloc hb1.size _
  have HG' := hide (gen_any a' m' cap' c' W2 (HI'.out.later hB2))
  have A2 := hide h2
  have BA2 := hide hbk
  clear h1 h2 hbk hb1 HG HI'
  go_wp2_with fail
  refine (unhide HG').mono ?_
  rintro e w3 ⟨db, hkb, htb, k2, s2, n2, a2, m2, c2, rfl, h3, hb3⟩
  clear hW2
  obtain ⟨W4, hW4⟩ : ∃ W4, w3.alloc (.cells #[.int .i64 k2, .string s2, .int .i64 n2, .slice a2 m2 c2] 25) = W4 := ⟨_, rfl⟩
  have hb24 : Below W2.heap.size W2 W4 := hW4 ▸ hb3.alloc hb3.size _
  have h4 : Is W4 db (.agg #[.int .i64 k2, .string s2, .int .i64 n2, .slice a2 m2 c2]) := hW4 ▸ h3.alloc _
  have hbk : Blk W4 w3.heap.size 25 #[.int .i64 k2, .string s2, .int .i64 n2, .slice a2 m2 c2] := hW4 ▸ Blk.new w3 25 _
  have hB4 : Below w.heap.size w W4 := hB2.trans (hb24.mono hB2.size)
  have A4 := hide (A2.out.below hb24)
  have BA4 := hide (BA2.out.below hb24 BA2.out.lt)
  have B4 := hide h4
  have BB4 := hide hbk
  have HKA := hide (full_7 hka)
  have HKB := hide (full_7 hkb)
  clear h3 h4 hbk hb3 HG' A2 BA2 hka hkb
  obtain ⟨p0, p1, p2, p3⟩ := BA4.out.four
  go_wp2_with fail
  refine (right_m A4.out).mono ?_
  rintro e w5 ⟨rfl, hb5⟩
  have hB5 := hB4.trans (hb5.mono hB4.size)
  clear p0 p1 p2 p3 hW4
  cases ha : rightD da with
  | false =>
    go_wp2_with fail
    refine (known_any w5).mono ?_
    rintro e wk ⟨rfl, hbk⟩
    go_wp2_with fail
    go_ret
    exact ⟨rfl, hB5.trans (hbk.mono hB5.size)⟩
  | true =>
    obtain ⟨q0, q1, q2, q3⟩ := (BB4.out.below hb5 BB4.out.lt).four
    go_wp2_with fail
    refine (right_m (B4.out.below hb5)).mono ?_
    rintro e w6 ⟨rfl, hb6⟩
    have hb46 : Below W4.heap.size W4 w6 := hb5.trans (hb6.mono hb5.size)
    have hB6 := hB4.trans (hb46.mono hB4.size)
    clear q0 q1 q2 q3
    cases hb : rightD db with
    | false =>
      go_wp2_with fail
      refine (known_any w6).mono ?_
      rintro e wk ⟨rfl, hbk⟩
      go_wp2_with fail
      go_ret
      exact ⟨rfl, hB6.trans (hbk.mono hB6.size)⟩
    | true =>
      have A6 := hide (A4.out.below hb46)
      have B6 := hide (B4.out.below hb46)
      have BA6 := hide (BA4.out.below hb46 BA4.out.lt)
      have BB6 := hide (BB4.out.below hb46 BB4.out.lt)
      clear A4 B4 BA4 BB4 hb5 hb6 hb46
      go_upto_region 5 with fail
      obtain ⟨p0, p1, p2, p3⟩ := BA6.out.four
      obtain ⟨q0, q1, q2, q3⟩ := BB6.out.four
      go_cut [9] from 32 to 37 (fun v wx => MadeAt w6 (.mk 7 ByteArray.empty 0 (.cons da (.cons (fitD db) .nil))) v wx)
      case first =>
        obtain ⟨wa, hwa⟩ : ∃ u, w6.drew = u := ⟨_, rfl⟩
        have hdwa : Below w6.heap.size w6 wa := hwa ▸ (Below.refl _ w6).drew
        have Awa := hide (A6.out.below hdwa)
        have Bwa := hide (B6.out.below hdwa)
        have hS : ∀ wn, Below wa.heap.size wa wn → Reads8 w1.heap.size w3.heap.size k1 s1 n1 a1 m1 c1 k2 s2 n2 a2 m2 c2 wn := fun wn h => by
          have h' : Below w6.heap.size w6 wn := hdwa.trans (h.mono hdwa.size)
          obtain ⟨e0, e1, e2, e3⟩ := (BA6.out.below h' BA6.out.lt).four
          obtain ⟨f0, f1, f2, f3⟩ := (BB6.out.below h' BB6.out.lt).four
          exact ⟨e0, e1, e2, e3, f0, f1, f2, f3⟩
        have HS := hide hS
        have hlA : w1.heap.size < wa.heap.size := Nat.lt_of_lt_of_le BA6.out.lt hdwa.size
        have hlB : w3.heap.size < wa.heap.size := Nat.lt_of_lt_of_le BB6.out.lt hdwa.size
        clear hS
        have Ewa := hide (show Is wa e0 (.agg #[.int .i64 0, .string ⟨#[]⟩, .int .i64 0, .slice none 0 0]) from is_empty)
        have hfix : ∀ {d : Dc} {v : Value} {wx wy : World}, MadeAt wx d v wy → Below w6.heap.size w6 wx → MadeAt w6 d v wy := fun h hb => by
          obtain ⟨g, k, s, n, a, m, c, h1, h2, h3, h4⟩ := h
          exact ⟨g, k, s, n, a, m, c, h1, h2, h3, hb.trans (h4.mono hb.size)⟩
        refine wp_region_held_drew (S := fun w' => w'.cell? ⟨w1.heap.size, 0, none⟩ = some (.int .i64 k1) ∧ w'.cell? ⟨w1.heap.size, 1, none⟩ = some (.string s1) ∧ w'.cell? ⟨w1.heap.size, 2, none⟩ = some (.int .i64 n1) ∧ w'.cell? ⟨w1.heap.size, 3, none⟩ = some (.slice a1 m1 c1) ∧ w'.cell? ⟨w3.heap.size, 0, none⟩ = some (.int .i64 k2) ∧ w'.cell? ⟨w3.heap.size, 1, none⟩ = some (.string s2) ∧ w'.cell? ⟨w3.heap.size, 2, none⟩ = some (.int .i64 n2) ∧ w'.cell? ⟨w3.heap.size, 3, none⟩ = some (.slice a2 m2 c2)) (by kernel_rfl) ?_ (fun hHeld => ?_)
        · exact ⟨p0, p1, p2, p3, q0, q1, q2, q3⟩
        rw [hwa] at hHeld ⊢
        refine wpAnyH_take (i := 0) (v := ?_) rfl (by kernel_rfl) (by kernel_rfl) (by kernel_rfl) (fun _ _ _ h => h) (Or.inl ⟨by rfl, ?_⟩) (by assumption) ?_
        rotate_left
        · intro w hSw; (try dsimp only at hSw); (try go_split_ands); go_simp
          all_goals with_reducible rfl
        try simp only [Act.put, List.getElem_toArray, List.getElem_cons_zero, List.getElem_cons_succ, List.setIfInBounds_toArray, List.set_cons_zero, List.set_cons_succ]
        refine wpAnyH_take (i := 1) (v := ?_) rfl (by kernel_rfl) (by kernel_rfl) (by kernel_rfl) (fun _ _ _ h => h) (Or.inl ⟨by rfl, ?_⟩) (by assumption) ?_
        rotate_left
        · intro w hSw; (try dsimp only at hSw); (try go_split_ands); go_simp
          all_goals with_reducible rfl
        try simp only [Act.put, List.getElem_toArray, List.getElem_cons_zero, List.getElem_cons_succ, List.setIfInBounds_toArray, List.set_cons_zero, List.set_cons_succ]
        refine wpAnyH_take (i := 2) (v := ?_) rfl (by kernel_rfl) (by kernel_rfl) (by kernel_rfl) (fun _ _ _ h => h) (Or.inl ⟨by rfl, ?_⟩) (by assumption) ?_
        rotate_left
        · intro w hSw; (try dsimp only at hSw); (try go_split_ands); go_simp
          all_goals with_reducible rfl
        try simp only [Act.put, List.getElem_toArray, List.getElem_cons_zero, List.getElem_cons_succ, List.setIfInBounds_toArray, List.set_cons_zero, List.set_cons_succ]
        refine wpAnyH_ready (rs := [3, 6]) (by kernel_rfl) (by simp) ?_
        refine AllReadyH.cons rfl (fun K6 hK6 => ?_) (AllReadyH.cons rfl (fun K6 hK6 => ?_) AllReadyH.nil)
        · skip
          go_simp
          refine (fit_n Bwa.out).mono ?_
          rintro e y1 ⟨kR, sR, nR, aR, mR, cR, rfl, hR, hy1⟩
          have R_0 := hide hR
          clear hR
          have hz1 : Below wa.heap.size wa y1 := (Below.refl wa.heap.size wa).trans (hy1.mono (Below.refl wa.heap.size wa).size)
          have A_1 := hide (Awa.out.below hy1)
          have B_1 := hide (Bwa.out.below hy1)
          have E_1 := hide (Ewa.out.below hy1)
          go_simp
          refine hK6.out _ _ ?_ (fun hHeld => ?_)
          · exact HS.out _ hz1
          clear hK6 K6
          refine wpAnyH_ready (rs := [4, 6]) (by kernel_rfl) (by simp) ?_
          refine AllReadyH.cons rfl (fun K6 hK6 => ?_) (AllReadyH.cons rfl (fun K6 hK6 => ?_) AllReadyH.nil)
          · skip
            obtain ⟨u2, hu2⟩ : ∃ u, y1.alloc (.cells #[.int .i64 k1, .string s1, .int .i64 n1, .slice a1 m1 c1, .int .i64 0, .string ⟨#[]⟩, .int .i64 0, .slice none 0 0, .int .i64 kR, .string sR, .int .i64 nR, .slice aR mR cR] 25) = u := ⟨_, rfl⟩
            have hs2 : Below y1.heap.size y1 u2 := hu2 ▸ (Below.refl _ y1).alloc (Nat.le_refl _) _
            have SL2 := hide (isl_lit (IsRow.three A_1.out E_1.out R_0.out) (by simp [maxLen]))
            have HU2 := hide hu2
            clear hu2
            have hz2 : Below wa.heap.size wa u2 := hz1.trans (hs2.mono hz1.size)
            have A_2 := hide (A_1.out.below hs2)
            have B_2 := hide (B_1.out.below hs2)
            have E_2 := hide (E_1.out.below hs2)
            have R_2 := hide (R_0.out.below hs2)
            go_simp
            rw [HU2.out]
            rw [HU2.out] at SL2
            refine hK6.out _ _ ?_ (fun hHeld => ?_)
            · exact HS.out _ hz2
            clear hK6 K6
            refine wpAnyH_ready (rs := [5, 6]) (by kernel_rfl) (by simp) ?_
            refine AllReadyH.cons rfl (fun K6 hK6 => ?_) (AllReadyH.cons rfl (fun K6 hK6 => ?_) AllReadyH.nil)
            · skip
              go_simp
              refine (row_n SL2.out (by simp) (by simp)).mono ?_
              rintro e y3 ⟨kX, sX, nX, aX, mX, cX, rfl, hX, hy3⟩
              rw [row_3 HKA.out (full_fit db)] at hX
              have X_0 := hide hX
              clear hX
              have hz3 : Below wa.heap.size wa y3 := hz2.trans (hy3.mono hz2.size)
              have A_3 := hide (A_2.out.below hy3)
              have B_3 := hide (B_2.out.below hy3)
              have E_3 := hide (E_2.out.below hy3)
              have R_3 := hide (R_2.out.below hy3)
              go_simp
              refine hK6.out _ _ ?_ (fun hHeld => ?_)
              · exact HS.out _ hz3
              clear hK6 K6
              refine wpAnyH_ready (rs := [6]) (by kernel_rfl) (by simp) ?_
              refine AllReadyH.cons rfl (fun K6 hK6 => ?_) AllReadyH.nil
              obtain ⟨u4, hu4⟩ : ∃ u, y3.alloc (.cells #[.int .i64 0, .string ⟨#[]⟩, .int .i64 0, .slice none 0 0] 25) = u := ⟨_, rfl⟩
              have hs4 : Below y3.heap.size y3 u4 := hu4 ▸ (Below.refl _ y3).alloc (Nat.le_refl _) _
              have hA4 := hide (show Blk u4 y3.heap.size 25 #[.int .i64 0, .string ⟨#[]⟩, .int .i64 0, .slice none 0 0] from hu4 ▸ Blk.new y3 25 _)
              have hg4 := hA4.out.lt
              have hge := hz3.size
              have A_4 := hide (show IsX y3.heap.size u4 da (.agg #[.int .i64 k1, .string s1, .int .i64 n1, .slice a1 m1 c1]) from hu4 ▸ A_3.out.toX _)
              have B_4 := hide (show IsX y3.heap.size u4 db (.agg #[.int .i64 k2, .string s2, .int .i64 n2, .slice a2 m2 c2]) from hu4 ▸ B_3.out.toX _)
              have E_4 := hide (show IsX y3.heap.size u4 e0 (.agg #[.int .i64 0, .string ⟨#[]⟩, .int .i64 0, .slice none 0 0]) from hu4 ▸ E_3.out.toX _)
              have R_4 := hide (show IsX y3.heap.size u4 (fitD db) (.agg #[.int .i64 kR, .string sR, .int .i64 nR, .slice aR mR cR]) from hu4 ▸ R_3.out.toX _)
              have X_4 := hide (show IsX y3.heap.size u4 (.mk 7 ByteArray.empty 0 (.cons da (.cons (fitD db) .nil))) (.agg #[.int .i64 kX, .string sX, .int .i64 nX, .slice aX mX cX]) from hu4 ▸ X_0.out.toX _)
              have hz4 : Below wa.heap.size wa u4 := hz3.trans (hs4.mono hz3.size)
              have HU4 := hide hu4
              clear hu4
              go_simp
              rw [HU4.out]
              refine hK6.out _ _ ?_ (fun hHeld => ?_)
              · exact HS.out _ hz4
              clear hK6 K6
              refine wpAnyH_ready (rs := [7]) (by kernel_rfl) (by simp) ?_
              refine AllReadyH.cons rfl (fun K6 hK6 => ?_) AllReadyH.nil
              obtain ⟨t0, t1, t2, t3⟩ := hA4.out.four
              have tf := hA4.out.frozen
              have hput := hide (s8_put (g := y3.heap.size) (by omega) (by omega) (HS.out _ hz4) (.int .i64 kX) (.string sX) (.int .i64 nX) (.slice aX mX cX))
              go_simp
              refine hK6.out _ _ ?_ (fun hHeld => ?_)
              · exact hput.out
              clear hK6 K6 t0 t1 t2 t3 tf
              refine wpAnyH_done (by kernel_rfl) ?_ _
              go_wp2_with fail
              go_meet
              refine hfix (wx := wa) ?_ hdwa
              exact ⟨_, _, _, _, _, _, _, rfl, hA4.out.put4_ _ _ _ _, X_4.out.put, below_put4 hz4 (by omega) _ _ _ _⟩
            · skip
              obtain ⟨u3, hu3⟩ : ∃ u, u2.alloc (.cells #[.int .i64 0, .string ⟨#[]⟩, .int .i64 0, .slice none 0 0] 25) = u := ⟨_, rfl⟩
              have hs3 : Below u2.heap.size u2 u3 := hu3 ▸ (Below.refl _ u2).alloc (Nat.le_refl _) _
              have hA3 := hide (show Blk u3 u2.heap.size 25 #[.int .i64 0, .string ⟨#[]⟩, .int .i64 0, .slice none 0 0] from hu3 ▸ Blk.new u2 25 _)
              have hg3 := hA3.out.lt
              have hge := hz2.size
              have A_3 := hide (show IsX u2.heap.size u3 da (.agg #[.int .i64 k1, .string s1, .int .i64 n1, .slice a1 m1 c1]) from hu3 ▸ A_2.out.toX _)
              have B_3 := hide (show IsX u2.heap.size u3 db (.agg #[.int .i64 k2, .string s2, .int .i64 n2, .slice a2 m2 c2]) from hu3 ▸ B_2.out.toX _)
              have E_3 := hide (show IsX u2.heap.size u3 e0 (.agg #[.int .i64 0, .string ⟨#[]⟩, .int .i64 0, .slice none 0 0]) from hu3 ▸ E_2.out.toX _)
              have R_3 := hide (show IsX u2.heap.size u3 (fitD db) (.agg #[.int .i64 kR, .string sR, .int .i64 nR, .slice aR mR cR]) from hu3 ▸ R_2.out.toX _)
              have SL3 := hide (slx SL2.out hs3)
              have hz3 : Below wa.heap.size wa u3 := hz2.trans (hs3.mono hz2.size)
              have HU3 := hide hu3
              clear hu3
              go_simp
              rw [HU3.out]
              refine hK6.out _ _ ?_ (fun hHeld => ?_)
              · exact HS.out _ hz3
              clear hK6 K6
              refine wpAnyH_ready (rs := [5]) (by kernel_rfl) (by simp) ?_
              refine AllReadyH.cons rfl (fun K6 hK6 => ?_) AllReadyH.nil
              go_simp
              refine (row_x hg3 SL3.out (by simp) (by simp)).mono ?_
              rintro e y4 ⟨kX, sX, nX, aX, mX, cX, rfl, hX, hy4⟩
              rw [row_3 HKA.out (full_fit db)] at hX
              have X_0 := hide hX
              clear hX
              have hz4 : Below wa.heap.size wa y4 := hz3.trans (hy4.mono hz3.size)
              have A_4 := hide (A_3.out.below hy4)
              have B_4 := hide (B_3.out.below hy4)
              have E_4 := hide (E_3.out.below hy4)
              have R_4 := hide (R_3.out.below hy4)
              have hA4 := hide (hA3.out.below hy4 hA3.out.lt)
              have hg4 : u2.heap.size < y4.heap.size := Nat.lt_of_lt_of_le hg3 hy4.size
              go_simp
              refine hK6.out _ _ ?_ (fun hHeld => ?_)
              · exact HS.out _ hz4
              clear hK6 K6
              refine wpAnyH_ready (rs := [7]) (by kernel_rfl) (by simp) ?_
              refine AllReadyH.cons rfl (fun K6 hK6 => ?_) AllReadyH.nil
              obtain ⟨t0, t1, t2, t3⟩ := hA4.out.four
              have tf := hA4.out.frozen
              have hput := hide (s8_put (g := u2.heap.size) (by omega) (by omega) (HS.out _ hz4) (.int .i64 kX) (.string sX) (.int .i64 nX) (.slice aX mX cX))
              go_simp
              refine hK6.out _ _ ?_ (fun hHeld => ?_)
              · exact hput.out
              clear hK6 K6 t0 t1 t2 t3 tf
              refine wpAnyH_done (by kernel_rfl) ?_ _
              go_wp2_with fail
              go_meet
              refine hfix (wx := wa) ?_ hdwa
              exact ⟨_, _, _, _, _, _, _, rfl, hA4.out.put4_ _ _ _ _, X_0.out.put, below_put4 hz4 (by omega) _ _ _ _⟩
          · skip
            obtain ⟨u2, hu2⟩ : ∃ u, y1.alloc (.cells #[.int .i64 0, .string ⟨#[]⟩, .int .i64 0, .slice none 0 0] 25) = u := ⟨_, rfl⟩
            have hs2 : Below y1.heap.size y1 u2 := hu2 ▸ (Below.refl _ y1).alloc (Nat.le_refl _) _
            have hA2 := hide (show Blk u2 y1.heap.size 25 #[.int .i64 0, .string ⟨#[]⟩, .int .i64 0, .slice none 0 0] from hu2 ▸ Blk.new y1 25 _)
            have hg2 := hA2.out.lt
            have hge := hz1.size
            have A_2 := hide (show IsX y1.heap.size u2 da (.agg #[.int .i64 k1, .string s1, .int .i64 n1, .slice a1 m1 c1]) from hu2 ▸ A_1.out.toX _)
            have B_2 := hide (show IsX y1.heap.size u2 db (.agg #[.int .i64 k2, .string s2, .int .i64 n2, .slice a2 m2 c2]) from hu2 ▸ B_1.out.toX _)
            have E_2 := hide (show IsX y1.heap.size u2 e0 (.agg #[.int .i64 0, .string ⟨#[]⟩, .int .i64 0, .slice none 0 0]) from hu2 ▸ E_1.out.toX _)
            have R_2 := hide (show IsX y1.heap.size u2 (fitD db) (.agg #[.int .i64 kR, .string sR, .int .i64 nR, .slice aR mR cR]) from hu2 ▸ R_0.out.toX _)
            have hz2 : Below wa.heap.size wa u2 := hz1.trans (hs2.mono hz1.size)
            have HU2 := hide hu2
            clear hu2
            go_simp
            rw [HU2.out]
            refine hK6.out _ _ ?_ (fun hHeld => ?_)
            · exact HS.out _ hz2
            clear hK6 K6
            refine wpAnyH_ready (rs := [4]) (by kernel_rfl) (by simp) ?_
            refine AllReadyH.cons rfl (fun K6 hK6 => ?_) AllReadyH.nil
            obtain ⟨u3, hu3⟩ : ∃ u, u2.alloc (.cells #[.int .i64 k1, .string s1, .int .i64 n1, .slice a1 m1 c1, .int .i64 0, .string ⟨#[]⟩, .int .i64 0, .slice none 0 0, .int .i64 kR, .string sR, .int .i64 nR, .slice aR mR cR] 25) = u := ⟨_, rfl⟩
            have hs3 : Below u2.heap.size u2 u3 := hu3 ▸ (Below.refl _ u2).alloc (Nat.le_refl _) _
            have SL3 := hide (insl_lit (g := y1.heap.size) (IsRow.three A_2.out E_2.out R_2.out) (by simp [maxLen]))
            have HU3 := hide hu3
            clear hu3
            have hz3 : Below wa.heap.size wa u3 := hz2.trans (hs3.mono hz2.size)
            have A_3 := hide (A_2.out.below hs3)
            have B_3 := hide (B_2.out.below hs3)
            have E_3 := hide (E_2.out.below hs3)
            have R_3 := hide (R_2.out.below hs3)
            have hA3 := hide (hA2.out.below hs3 hA2.out.lt)
            have hg3 : y1.heap.size < u3.heap.size := Nat.lt_of_lt_of_le hg2 hs3.size
            go_simp
            rw [HU3.out]
            rw [HU3.out] at SL3
            refine hK6.out _ _ ?_ (fun hHeld => ?_)
            · exact HS.out _ hz3
            clear hK6 K6
            refine wpAnyH_ready (rs := [5]) (by kernel_rfl) (by simp) ?_
            refine AllReadyH.cons rfl (fun K6 hK6 => ?_) AllReadyH.nil
            go_simp
            refine (row_x hg3 SL3.out (by simp) (by simp)).mono ?_
            rintro e y4 ⟨kX, sX, nX, aX, mX, cX, rfl, hX, hy4⟩
            rw [row_3 HKA.out (full_fit db)] at hX
            have X_0 := hide hX
            clear hX
            have hz4 : Below wa.heap.size wa y4 := hz3.trans (hy4.mono hz3.size)
            have A_4 := hide (A_3.out.below hy4)
            have B_4 := hide (B_3.out.below hy4)
            have E_4 := hide (E_3.out.below hy4)
            have R_4 := hide (R_3.out.below hy4)
            have hA4 := hide (hA3.out.below hy4 hA3.out.lt)
            have hg4 : y1.heap.size < y4.heap.size := Nat.lt_of_lt_of_le hg3 hy4.size
            go_simp
            refine hK6.out _ _ ?_ (fun hHeld => ?_)
            · exact HS.out _ hz4
            clear hK6 K6
            refine wpAnyH_ready (rs := [7]) (by kernel_rfl) (by simp) ?_
            refine AllReadyH.cons rfl (fun K6 hK6 => ?_) AllReadyH.nil
            obtain ⟨t0, t1, t2, t3⟩ := hA4.out.four
            have tf := hA4.out.frozen
            have hput := hide (s8_put (g := y1.heap.size) (by omega) (by omega) (HS.out _ hz4) (.int .i64 kX) (.string sX) (.int .i64 nX) (.slice aX mX cX))
            go_simp
            refine hK6.out _ _ ?_ (fun hHeld => ?_)
            · exact hput.out
            clear hK6 K6 t0 t1 t2 t3 tf
            refine wpAnyH_done (by kernel_rfl) ?_ _
            go_wp2_with fail
            go_meet
            refine hfix (wx := wa) ?_ hdwa
            exact ⟨_, _, _, _, _, _, _, rfl, hA4.out.put4_ _ _ _ _, X_0.out.put, below_put4 hz4 (by omega) _ _ _ _⟩
        · skip
          obtain ⟨u1, hu1⟩ : ∃ u, wa.alloc (.cells #[.int .i64 0, .string ⟨#[]⟩, .int .i64 0, .slice none 0 0] 25) = u := ⟨_, rfl⟩
          have hs1 : Below wa.heap.size wa u1 := hu1 ▸ (Below.refl _ wa).alloc (Nat.le_refl _) _
          have hA1 := hide (show Blk u1 wa.heap.size 25 #[.int .i64 0, .string ⟨#[]⟩, .int .i64 0, .slice none 0 0] from hu1 ▸ Blk.new wa 25 _)
          have hg1 := hA1.out.lt
          have hge := (Below.refl wa.heap.size wa).size
          have A_1 := hide (show IsX wa.heap.size u1 da (.agg #[.int .i64 k1, .string s1, .int .i64 n1, .slice a1 m1 c1]) from hu1 ▸ Awa.out.toX _)
          have B_1 := hide (show IsX wa.heap.size u1 db (.agg #[.int .i64 k2, .string s2, .int .i64 n2, .slice a2 m2 c2]) from hu1 ▸ Bwa.out.toX _)
          have E_1 := hide (show IsX wa.heap.size u1 e0 (.agg #[.int .i64 0, .string ⟨#[]⟩, .int .i64 0, .slice none 0 0]) from hu1 ▸ Ewa.out.toX _)
          have hz1 : Below wa.heap.size wa u1 := (Below.refl wa.heap.size wa).trans (hs1.mono (Below.refl wa.heap.size wa).size)
          have HU1 := hide hu1
          clear hu1
          go_simp
          rw [HU1.out]
          refine hK6.out _ _ ?_ (fun hHeld => ?_)
          · exact HS.out _ hz1
          clear hK6 K6
          refine wpAnyH_ready (rs := [3]) (by kernel_rfl) (by simp) ?_
          refine AllReadyH.cons rfl (fun K6 hK6 => ?_) AllReadyH.nil
          go_simp
          refine (fit_x hg1 B_1.out).mono ?_
          rintro e y2 ⟨kR, sR, nR, aR, mR, cR, rfl, hR, hy2⟩
          have R_0 := hide hR
          clear hR
          have hz2 : Below wa.heap.size wa y2 := hz1.trans (hy2.mono hz1.size)
          have A_2 := hide (A_1.out.below hy2)
          have B_2 := hide (B_1.out.below hy2)
          have E_2 := hide (E_1.out.below hy2)
          have hA2 := hide (hA1.out.below hy2 hA1.out.lt)
          have hg2 : wa.heap.size < y2.heap.size := Nat.lt_of_lt_of_le hg1 hy2.size
          go_simp
          refine hK6.out _ _ ?_ (fun hHeld => ?_)
          · exact HS.out _ hz2
          clear hK6 K6
          refine wpAnyH_ready (rs := [4]) (by kernel_rfl) (by simp) ?_
          refine AllReadyH.cons rfl (fun K6 hK6 => ?_) AllReadyH.nil
          obtain ⟨u3, hu3⟩ : ∃ u, y2.alloc (.cells #[.int .i64 k1, .string s1, .int .i64 n1, .slice a1 m1 c1, .int .i64 0, .string ⟨#[]⟩, .int .i64 0, .slice none 0 0, .int .i64 kR, .string sR, .int .i64 nR, .slice aR mR cR] 25) = u := ⟨_, rfl⟩
          have hs3 : Below y2.heap.size y2 u3 := hu3 ▸ (Below.refl _ y2).alloc (Nat.le_refl _) _
          have SL3 := hide (insl_lit (g := wa.heap.size) (IsRow.three A_2.out E_2.out R_0.out) (by simp [maxLen]))
          have HU3 := hide hu3
          clear hu3
          have hz3 : Below wa.heap.size wa u3 := hz2.trans (hs3.mono hz2.size)
          have A_3 := hide (A_2.out.below hs3)
          have B_3 := hide (B_2.out.below hs3)
          have E_3 := hide (E_2.out.below hs3)
          have R_3 := hide (R_0.out.below hs3)
          have hA3 := hide (hA2.out.below hs3 hA2.out.lt)
          have hg3 : wa.heap.size < u3.heap.size := Nat.lt_of_lt_of_le hg2 hs3.size
          go_simp
          rw [HU3.out]
          rw [HU3.out] at SL3
          refine hK6.out _ _ ?_ (fun hHeld => ?_)
          · exact HS.out _ hz3
          clear hK6 K6
          refine wpAnyH_ready (rs := [5]) (by kernel_rfl) (by simp) ?_
          refine AllReadyH.cons rfl (fun K6 hK6 => ?_) AllReadyH.nil
          go_simp
          refine (row_x hg3 SL3.out (by simp) (by simp)).mono ?_
          rintro e y4 ⟨kX, sX, nX, aX, mX, cX, rfl, hX, hy4⟩
          rw [row_3 HKA.out (full_fit db)] at hX
          have X_0 := hide hX
          clear hX
          have hz4 : Below wa.heap.size wa y4 := hz3.trans (hy4.mono hz3.size)
          have A_4 := hide (A_3.out.below hy4)
          have B_4 := hide (B_3.out.below hy4)
          have E_4 := hide (E_3.out.below hy4)
          have R_4 := hide (R_3.out.below hy4)
          have hA4 := hide (hA3.out.below hy4 hA3.out.lt)
          have hg4 : wa.heap.size < y4.heap.size := Nat.lt_of_lt_of_le hg3 hy4.size
          go_simp
          refine hK6.out _ _ ?_ (fun hHeld => ?_)
          · exact HS.out _ hz4
          clear hK6 K6
          refine wpAnyH_ready (rs := [7]) (by kernel_rfl) (by simp) ?_
          refine AllReadyH.cons rfl (fun K6 hK6 => ?_) AllReadyH.nil
          obtain ⟨t0, t1, t2, t3⟩ := hA4.out.four
          have tf := hA4.out.frozen
          have hput := hide (s8_put (g := wa.heap.size) (by omega) (by omega) (HS.out _ hz4) (.int .i64 kX) (.string sX) (.int .i64 nX) (.slice aX mX cX))
          go_simp
          refine hK6.out _ _ ?_ (fun hHeld => ?_)
          · exact hput.out
          clear hK6 K6 t0 t1 t2 t3 tf
          refine wpAnyH_done (by kernel_rfl) ?_ _
          go_wp2_with fail
          go_meet
          refine hfix (wx := wa) ?_ hdwa
          exact ⟨_, _, _, _, _, _, _, rfl, hA4.out.put4_ _ _ _ _, X_0.out.put, below_put4 hz4 (by omega) _ _ _ _⟩
      case rest =>
        obtain ⟨g11, kx, sx, nx, ax, mx, cx, rfl, hbx, hx, hb7⟩ : MadeAt w6 (.mk 7 ByteArray.empty 0 (.cons da (.cons (fitD db) .nil))) u9 wc := hcut
        obtain ⟨w7, rfl⟩ : ∃ w7 : World, w7 = wc := ⟨_, rfl⟩
        have hw7 : Below w.heap.size w w7 := hB6.trans (hb7.mono hB6.size)
        have A7 := hide (A6.out.below hb7)
        have B7 := hide (B6.out.below hb7)
        have BA7 := hide (BA6.out.below hb7 BA6.out.lt)
        have BB7 := hide (BB6.out.below hb7 BB6.out.lt)
        have X7 := hide hx
        have BX7 := hide hbx
        clear p0 p1 p2 p3 q0 q1 q2 q3 hx hbx A6 B6 BA6 BB6
        go_upto_region 6 with fail
        obtain ⟨p0, p1, p2, p3⟩ := BA7.out.four
        obtain ⟨q0, q1, q2, q3⟩ := BB7.out.four
        have e1 : IntKind.i64.wrap n = n := IntWalk.i64_in _ (by omega)
        go_cut [10] from 38 to 45 (fun v wx => MadeAt w7 (.mk 7 ByteArray.empty 0 (.cons (fitD (inD n da)) (.cons db .nil))) v wx)
        case first =>
          obtain ⟨wb, hwb⟩ : ∃ u, w7.drew = u := ⟨_, rfl⟩
          have hdwb : Below w7.heap.size w7 wb := hwb ▸ (Below.refl _ w7).drew
          have Awb := hide (A7.out.below hdwb)
          have Bwb := hide (B7.out.below hdwb)
          have hS : ∀ wn, Below wb.heap.size wb wn → Reads8 w1.heap.size w3.heap.size k1 s1 n1 a1 m1 c1 k2 s2 n2 a2 m2 c2 wn := fun wn h => by
            have h' : Below w7.heap.size w7 wn := hdwb.trans (h.mono hdwb.size)
            obtain ⟨e0, e1, e2, e3⟩ := (BA7.out.below h' BA7.out.lt).four
            obtain ⟨f0, f1, f2, f3⟩ := (BB7.out.below h' BB7.out.lt).four
            exact ⟨e0, e1, e2, e3, f0, f1, f2, f3⟩
          have HS := hide hS
          have hlA : w1.heap.size < wb.heap.size := Nat.lt_of_lt_of_le BA7.out.lt hdwb.size
          have hlB : w3.heap.size < wb.heap.size := Nat.lt_of_lt_of_le BB7.out.lt hdwb.size
          clear hS
          have hfix : ∀ {d : Dc} {v : Value} {wx wy : World}, MadeAt wx d v wy → Below w7.heap.size w7 wx → MadeAt w7 d v wy := fun h hb => by
            obtain ⟨g, k, s, n, a, m, c, h1, h2, h3, h4⟩ := h
            exact ⟨g, k, s, n, a, m, c, h1, h2, h3, hb.trans (h4.mono hb.size)⟩
          refine wp_region_held_drew (S := fun w' => w'.cell? ⟨w1.heap.size, 0, none⟩ = some (.int .i64 k1) ∧ w'.cell? ⟨w1.heap.size, 1, none⟩ = some (.string s1) ∧ w'.cell? ⟨w1.heap.size, 2, none⟩ = some (.int .i64 n1) ∧ w'.cell? ⟨w1.heap.size, 3, none⟩ = some (.slice a1 m1 c1) ∧ w'.cell? ⟨w3.heap.size, 0, none⟩ = some (.int .i64 k2) ∧ w'.cell? ⟨w3.heap.size, 1, none⟩ = some (.string s2) ∧ w'.cell? ⟨w3.heap.size, 2, none⟩ = some (.int .i64 n2) ∧ w'.cell? ⟨w3.heap.size, 3, none⟩ = some (.slice a2 m2 c2)) (by kernel_rfl) ?_ (fun hHeld => ?_)
          · exact ⟨p0, p1, p2, p3, q0, q1, q2, q3⟩
          rw [hwb] at hHeld ⊢
          refine wpAnyH_take (i := 0) (v := ?_) rfl (by kernel_rfl) (by kernel_rfl) (by kernel_rfl) (fun _ _ _ h => h) (Or.inl ⟨by rfl, ?_⟩) (by assumption) ?_
          rotate_left
          · intro w hSw; (try dsimp only at hSw); (try go_split_ands); go_simp
            all_goals with_reducible rfl
          try simp only [Act.put, List.getElem_toArray, List.getElem_cons_zero, List.getElem_cons_succ, List.setIfInBounds_toArray, List.set_cons_zero, List.set_cons_succ]
          refine wpAnyH_take (i := 1) (v := ?_) rfl (by kernel_rfl) (by kernel_rfl) (by kernel_rfl) (fun _ _ _ h => h) (Or.inl ⟨by rfl, ?_⟩) (by assumption) ?_
          rotate_left
          · intro w hSw; (try dsimp only at hSw); (try go_split_ands); go_simp
            all_goals with_reducible rfl
          try simp only [Act.put, List.getElem_toArray, List.getElem_cons_zero, List.getElem_cons_succ, List.setIfInBounds_toArray, List.set_cons_zero, List.set_cons_succ]
          refine wpAnyH_take (i := 2) (v := ?_) rfl (by kernel_rfl) (by kernel_rfl) (by kernel_rfl) (fun _ _ _ h => h) (Or.inl ⟨by rfl, ?_⟩) (by assumption) ?_
          rotate_left
          · intro w hSw; (try dsimp only at hSw); (try go_split_ands); go_simp
            all_goals with_reducible rfl
          try simp only [Act.put, List.getElem_toArray, List.getElem_cons_zero, List.getElem_cons_succ, List.setIfInBounds_toArray, List.set_cons_zero, List.set_cons_succ]
          refine wpAnyH_take (i := 5) (v := ?_) rfl (by kernel_rfl) (by kernel_rfl) (by kernel_rfl) (fun _ _ _ h => h) (Or.inl ⟨by rfl, ?_⟩) (by assumption) ?_
          rotate_left
          · intro w hSw; (try dsimp only at hSw); (try go_split_ands); go_simp
            all_goals with_reducible rfl
          try simp only [Act.put, List.getElem_toArray, List.getElem_cons_zero, List.getElem_cons_succ, List.setIfInBounds_toArray, List.set_cons_zero, List.set_cons_succ]
          refine wpAnyH_ready (rs := [3, 8]) (by kernel_rfl) (by simp) ?_
          refine AllReadyH.cons rfl (fun K6 hK6 => ?_) (AllReadyH.cons rfl (fun K6 hK6 => ?_) AllReadyH.nil)
          · skip
            go_simp
            refine (in_n n (by omega) Awb.out).mono ?_
            rintro e y1 ⟨kQ, sQ, nQ, aQ, mQ, cQ, rfl, hQ, hy1⟩
            have Q_0 := hide hQ
            clear hQ
            have hz1 : Below wb.heap.size wb y1 := (Below.refl wb.heap.size wb).trans (hy1.mono (Below.refl wb.heap.size wb).size)
            have A_1 := hide (Awb.out.below hy1)
            have B_1 := hide (Bwb.out.below hy1)
            go_simp
            refine hK6.out _ _ ?_ (fun hHeld => ?_)
            · exact HS.out _ hz1
            clear hK6 K6
            refine wpAnyH_ready (rs := [4, 8]) (by kernel_rfl) (by simp) ?_
            refine AllReadyH.cons rfl (fun K6 hK6 => ?_) (AllReadyH.cons rfl (fun K6 hK6 => ?_) AllReadyH.nil)
            · skip
              go_simp
              refine (fit_n Q_0.out).mono ?_
              rintro e y2 ⟨kR, sR, nR, aR, mR, cR, rfl, hR, hy2⟩
              have R_0 := hide hR
              clear hR
              have hz2 : Below wb.heap.size wb y2 := hz1.trans (hy2.mono hz1.size)
              have A_2 := hide (A_1.out.below hy2)
              have B_2 := hide (B_1.out.below hy2)
              have Q_2 := hide (Q_0.out.below hy2)
              go_simp
              refine hK6.out _ _ ?_ (fun hHeld => ?_)
              · exact HS.out _ hz2
              clear hK6 K6
              refine wpAnyH_ready (rs := [6, 8]) (by kernel_rfl) (by simp) ?_
              refine AllReadyH.cons rfl (fun K6 hK6 => ?_) (AllReadyH.cons rfl (fun K6 hK6 => ?_) AllReadyH.nil)
              · skip
                obtain ⟨u3, hu3⟩ : ∃ u, y2.alloc (.cells #[.int .i64 kR, .string sR, .int .i64 nR, .slice aR mR cR, .int .i64 k2, .string s2, .int .i64 n2, .slice a2 m2 c2] 25) = u := ⟨_, rfl⟩
                have hs3 : Below y2.heap.size y2 u3 := hu3 ▸ (Below.refl _ y2).alloc (Nat.le_refl _) _
                have SL3 := hide (isl_lit (IsRow.two R_0.out B_2.out) (by simp [maxLen]))
                have HU3 := hide hu3
                clear hu3
                have hz3 : Below wb.heap.size wb u3 := hz2.trans (hs3.mono hz2.size)
                have A_3 := hide (A_2.out.below hs3)
                have B_3 := hide (B_2.out.below hs3)
                have Q_3 := hide (Q_2.out.below hs3)
                have R_3 := hide (R_0.out.below hs3)
                go_simp
                rw [HU3.out]
                rw [HU3.out] at SL3
                refine hK6.out _ _ ?_ (fun hHeld => ?_)
                · exact HS.out _ hz3
                clear hK6 K6
                refine wpAnyH_ready (rs := [7, 8]) (by kernel_rfl) (by simp) ?_
                refine AllReadyH.cons rfl (fun K6 hK6 => ?_) (AllReadyH.cons rfl (fun K6 hK6 => ?_) AllReadyH.nil)
                · skip
                  go_simp
                  refine (row_n SL3.out (by simp) (by simp)).mono ?_
                  rintro e y4 ⟨kY, sY, nY, aY, mY, cY, rfl, hY, hy4⟩
                  rw [row_2 rfl HKB.out] at hY
                  have Y_0 := hide hY
                  clear hY
                  have hz4 : Below wb.heap.size wb y4 := hz3.trans (hy4.mono hz3.size)
                  have A_4 := hide (A_3.out.below hy4)
                  have B_4 := hide (B_3.out.below hy4)
                  have Q_4 := hide (Q_3.out.below hy4)
                  have R_4 := hide (R_3.out.below hy4)
                  go_simp
                  refine hK6.out _ _ ?_ (fun hHeld => ?_)
                  · exact HS.out _ hz4
                  clear hK6 K6
                  refine wpAnyH_ready (rs := [8]) (by kernel_rfl) (by simp) ?_
                  refine AllReadyH.cons rfl (fun K6 hK6 => ?_) AllReadyH.nil
                  obtain ⟨u5, hu5⟩ : ∃ u, y4.alloc (.cells #[.int .i64 0, .string ⟨#[]⟩, .int .i64 0, .slice none 0 0] 25) = u := ⟨_, rfl⟩
                  have hs5 : Below y4.heap.size y4 u5 := hu5 ▸ (Below.refl _ y4).alloc (Nat.le_refl _) _
                  have hA5 := hide (show Blk u5 y4.heap.size 25 #[.int .i64 0, .string ⟨#[]⟩, .int .i64 0, .slice none 0 0] from hu5 ▸ Blk.new y4 25 _)
                  have hg5 := hA5.out.lt
                  have hge := hz4.size
                  have A_5 := hide (show IsX y4.heap.size u5 da (.agg #[.int .i64 k1, .string s1, .int .i64 n1, .slice a1 m1 c1]) from hu5 ▸ A_4.out.toX _)
                  have B_5 := hide (show IsX y4.heap.size u5 db (.agg #[.int .i64 k2, .string s2, .int .i64 n2, .slice a2 m2 c2]) from hu5 ▸ B_4.out.toX _)
                  have Q_5 := hide (show IsX y4.heap.size u5 (inD n da) (.agg #[.int .i64 kQ, .string sQ, .int .i64 nQ, .slice aQ mQ cQ]) from hu5 ▸ Q_4.out.toX _)
                  have R_5 := hide (show IsX y4.heap.size u5 (fitD (inD n da)) (.agg #[.int .i64 kR, .string sR, .int .i64 nR, .slice aR mR cR]) from hu5 ▸ R_4.out.toX _)
                  have Y_5 := hide (show IsX y4.heap.size u5 (.mk 7 ByteArray.empty 0 (.cons (fitD (inD n da)) (.cons db .nil))) (.agg #[.int .i64 kY, .string sY, .int .i64 nY, .slice aY mY cY]) from hu5 ▸ Y_0.out.toX _)
                  have hz5 : Below wb.heap.size wb u5 := hz4.trans (hs5.mono hz4.size)
                  have HU5 := hide hu5
                  clear hu5
                  go_simp
                  rw [HU5.out]
                  refine hK6.out _ _ ?_ (fun hHeld => ?_)
                  · exact HS.out _ hz5
                  clear hK6 K6
                  refine wpAnyH_ready (rs := [9]) (by kernel_rfl) (by simp) ?_
                  refine AllReadyH.cons rfl (fun K6 hK6 => ?_) AllReadyH.nil
                  obtain ⟨t0, t1, t2, t3⟩ := hA5.out.four
                  have tf := hA5.out.frozen
                  have hput := hide (s8_put (g := y4.heap.size) (by omega) (by omega) (HS.out _ hz5) (.int .i64 kY) (.string sY) (.int .i64 nY) (.slice aY mY cY))
                  go_simp
                  refine hK6.out _ _ ?_ (fun hHeld => ?_)
                  · exact hput.out
                  clear hK6 K6 t0 t1 t2 t3 tf
                  refine wpAnyH_done (by kernel_rfl) ?_ _
                  go_wp2_with fail
                  go_meet
                  refine hfix (wx := wb) ?_ hdwb
                  exact ⟨_, _, _, _, _, _, _, rfl, hA5.out.put4_ _ _ _ _, Y_5.out.put, below_put4 hz5 (by omega) _ _ _ _⟩
                · skip
                  obtain ⟨u4, hu4⟩ : ∃ u, u3.alloc (.cells #[.int .i64 0, .string ⟨#[]⟩, .int .i64 0, .slice none 0 0] 25) = u := ⟨_, rfl⟩
                  have hs4 : Below u3.heap.size u3 u4 := hu4 ▸ (Below.refl _ u3).alloc (Nat.le_refl _) _
                  have hA4 := hide (show Blk u4 u3.heap.size 25 #[.int .i64 0, .string ⟨#[]⟩, .int .i64 0, .slice none 0 0] from hu4 ▸ Blk.new u3 25 _)
                  have hg4 := hA4.out.lt
                  have hge := hz3.size
                  have A_4 := hide (show IsX u3.heap.size u4 da (.agg #[.int .i64 k1, .string s1, .int .i64 n1, .slice a1 m1 c1]) from hu4 ▸ A_3.out.toX _)
                  have B_4 := hide (show IsX u3.heap.size u4 db (.agg #[.int .i64 k2, .string s2, .int .i64 n2, .slice a2 m2 c2]) from hu4 ▸ B_3.out.toX _)
                  have Q_4 := hide (show IsX u3.heap.size u4 (inD n da) (.agg #[.int .i64 kQ, .string sQ, .int .i64 nQ, .slice aQ mQ cQ]) from hu4 ▸ Q_3.out.toX _)
                  have R_4 := hide (show IsX u3.heap.size u4 (fitD (inD n da)) (.agg #[.int .i64 kR, .string sR, .int .i64 nR, .slice aR mR cR]) from hu4 ▸ R_3.out.toX _)
                  have SL4 := hide (slx SL3.out hs4)
                  have hz4 : Below wb.heap.size wb u4 := hz3.trans (hs4.mono hz3.size)
                  have HU4 := hide hu4
                  clear hu4
                  go_simp
                  rw [HU4.out]
                  refine hK6.out _ _ ?_ (fun hHeld => ?_)
                  · exact HS.out _ hz4
                  clear hK6 K6
                  refine wpAnyH_ready (rs := [7]) (by kernel_rfl) (by simp) ?_
                  refine AllReadyH.cons rfl (fun K6 hK6 => ?_) AllReadyH.nil
                  go_simp
                  refine (row_x hg4 SL4.out (by simp) (by simp)).mono ?_
                  rintro e y5 ⟨kY, sY, nY, aY, mY, cY, rfl, hY, hy5⟩
                  rw [row_2 rfl HKB.out] at hY
                  have Y_0 := hide hY
                  clear hY
                  have hz5 : Below wb.heap.size wb y5 := hz4.trans (hy5.mono hz4.size)
                  have A_5 := hide (A_4.out.below hy5)
                  have B_5 := hide (B_4.out.below hy5)
                  have Q_5 := hide (Q_4.out.below hy5)
                  have R_5 := hide (R_4.out.below hy5)
                  have hA5 := hide (hA4.out.below hy5 hA4.out.lt)
                  have hg5 : u3.heap.size < y5.heap.size := Nat.lt_of_lt_of_le hg4 hy5.size
                  go_simp
                  refine hK6.out _ _ ?_ (fun hHeld => ?_)
                  · exact HS.out _ hz5
                  clear hK6 K6
                  refine wpAnyH_ready (rs := [9]) (by kernel_rfl) (by simp) ?_
                  refine AllReadyH.cons rfl (fun K6 hK6 => ?_) AllReadyH.nil
                  obtain ⟨t0, t1, t2, t3⟩ := hA5.out.four
                  have tf := hA5.out.frozen
                  have hput := hide (s8_put (g := u3.heap.size) (by omega) (by omega) (HS.out _ hz5) (.int .i64 kY) (.string sY) (.int .i64 nY) (.slice aY mY cY))
                  go_simp
                  refine hK6.out _ _ ?_ (fun hHeld => ?_)
                  · exact hput.out
                  clear hK6 K6 t0 t1 t2 t3 tf
                  refine wpAnyH_done (by kernel_rfl) ?_ _
                  go_wp2_with fail
                  go_meet
                  refine hfix (wx := wb) ?_ hdwb
                  exact ⟨_, _, _, _, _, _, _, rfl, hA5.out.put4_ _ _ _ _, Y_0.out.put, below_put4 hz5 (by omega) _ _ _ _⟩
              · skip
                obtain ⟨u3, hu3⟩ : ∃ u, y2.alloc (.cells #[.int .i64 0, .string ⟨#[]⟩, .int .i64 0, .slice none 0 0] 25) = u := ⟨_, rfl⟩
                have hs3 : Below y2.heap.size y2 u3 := hu3 ▸ (Below.refl _ y2).alloc (Nat.le_refl _) _
                have hA3 := hide (show Blk u3 y2.heap.size 25 #[.int .i64 0, .string ⟨#[]⟩, .int .i64 0, .slice none 0 0] from hu3 ▸ Blk.new y2 25 _)
                have hg3 := hA3.out.lt
                have hge := hz2.size
                have A_3 := hide (show IsX y2.heap.size u3 da (.agg #[.int .i64 k1, .string s1, .int .i64 n1, .slice a1 m1 c1]) from hu3 ▸ A_2.out.toX _)
                have B_3 := hide (show IsX y2.heap.size u3 db (.agg #[.int .i64 k2, .string s2, .int .i64 n2, .slice a2 m2 c2]) from hu3 ▸ B_2.out.toX _)
                have Q_3 := hide (show IsX y2.heap.size u3 (inD n da) (.agg #[.int .i64 kQ, .string sQ, .int .i64 nQ, .slice aQ mQ cQ]) from hu3 ▸ Q_2.out.toX _)
                have R_3 := hide (show IsX y2.heap.size u3 (fitD (inD n da)) (.agg #[.int .i64 kR, .string sR, .int .i64 nR, .slice aR mR cR]) from hu3 ▸ R_0.out.toX _)
                have hz3 : Below wb.heap.size wb u3 := hz2.trans (hs3.mono hz2.size)
                have HU3 := hide hu3
                clear hu3
                go_simp
                rw [HU3.out]
                refine hK6.out _ _ ?_ (fun hHeld => ?_)
                · exact HS.out _ hz3
                clear hK6 K6
                refine wpAnyH_ready (rs := [6]) (by kernel_rfl) (by simp) ?_
                refine AllReadyH.cons rfl (fun K6 hK6 => ?_) AllReadyH.nil
                obtain ⟨u4, hu4⟩ : ∃ u, u3.alloc (.cells #[.int .i64 kR, .string sR, .int .i64 nR, .slice aR mR cR, .int .i64 k2, .string s2, .int .i64 n2, .slice a2 m2 c2] 25) = u := ⟨_, rfl⟩
                have hs4 : Below u3.heap.size u3 u4 := hu4 ▸ (Below.refl _ u3).alloc (Nat.le_refl _) _
                have SL4 := hide (insl_lit (g := y2.heap.size) (IsRow.two R_3.out B_3.out) (by simp [maxLen]))
                have HU4 := hide hu4
                clear hu4
                have hz4 : Below wb.heap.size wb u4 := hz3.trans (hs4.mono hz3.size)
                have A_4 := hide (A_3.out.below hs4)
                have B_4 := hide (B_3.out.below hs4)
                have Q_4 := hide (Q_3.out.below hs4)
                have R_4 := hide (R_3.out.below hs4)
                have hA4 := hide (hA3.out.below hs4 hA3.out.lt)
                have hg4 : y2.heap.size < u4.heap.size := Nat.lt_of_lt_of_le hg3 hs4.size
                go_simp
                rw [HU4.out]
                rw [HU4.out] at SL4
                refine hK6.out _ _ ?_ (fun hHeld => ?_)
                · exact HS.out _ hz4
                clear hK6 K6
                refine wpAnyH_ready (rs := [7]) (by kernel_rfl) (by simp) ?_
                refine AllReadyH.cons rfl (fun K6 hK6 => ?_) AllReadyH.nil
                go_simp
                refine (row_x hg4 SL4.out (by simp) (by simp)).mono ?_
                rintro e y5 ⟨kY, sY, nY, aY, mY, cY, rfl, hY, hy5⟩
                rw [row_2 rfl HKB.out] at hY
                have Y_0 := hide hY
                clear hY
                have hz5 : Below wb.heap.size wb y5 := hz4.trans (hy5.mono hz4.size)
                have A_5 := hide (A_4.out.below hy5)
                have B_5 := hide (B_4.out.below hy5)
                have Q_5 := hide (Q_4.out.below hy5)
                have R_5 := hide (R_4.out.below hy5)
                have hA5 := hide (hA4.out.below hy5 hA4.out.lt)
                have hg5 : y2.heap.size < y5.heap.size := Nat.lt_of_lt_of_le hg4 hy5.size
                go_simp
                refine hK6.out _ _ ?_ (fun hHeld => ?_)
                · exact HS.out _ hz5
                clear hK6 K6
                refine wpAnyH_ready (rs := [9]) (by kernel_rfl) (by simp) ?_
                refine AllReadyH.cons rfl (fun K6 hK6 => ?_) AllReadyH.nil
                obtain ⟨t0, t1, t2, t3⟩ := hA5.out.four
                have tf := hA5.out.frozen
                have hput := hide (s8_put (g := y2.heap.size) (by omega) (by omega) (HS.out _ hz5) (.int .i64 kY) (.string sY) (.int .i64 nY) (.slice aY mY cY))
                go_simp
                refine hK6.out _ _ ?_ (fun hHeld => ?_)
                · exact hput.out
                clear hK6 K6 t0 t1 t2 t3 tf
                refine wpAnyH_done (by kernel_rfl) ?_ _
                go_wp2_with fail
                go_meet
                refine hfix (wx := wb) ?_ hdwb
                exact ⟨_, _, _, _, _, _, _, rfl, hA5.out.put4_ _ _ _ _, Y_0.out.put, below_put4 hz5 (by omega) _ _ _ _⟩
            · skip
              obtain ⟨u2, hu2⟩ : ∃ u, y1.alloc (.cells #[.int .i64 0, .string ⟨#[]⟩, .int .i64 0, .slice none 0 0] 25) = u := ⟨_, rfl⟩
              have hs2 : Below y1.heap.size y1 u2 := hu2 ▸ (Below.refl _ y1).alloc (Nat.le_refl _) _
              have hA2 := hide (show Blk u2 y1.heap.size 25 #[.int .i64 0, .string ⟨#[]⟩, .int .i64 0, .slice none 0 0] from hu2 ▸ Blk.new y1 25 _)
              have hg2 := hA2.out.lt
              have hge := hz1.size
              have A_2 := hide (show IsX y1.heap.size u2 da (.agg #[.int .i64 k1, .string s1, .int .i64 n1, .slice a1 m1 c1]) from hu2 ▸ A_1.out.toX _)
              have B_2 := hide (show IsX y1.heap.size u2 db (.agg #[.int .i64 k2, .string s2, .int .i64 n2, .slice a2 m2 c2]) from hu2 ▸ B_1.out.toX _)
              have Q_2 := hide (show IsX y1.heap.size u2 (inD n da) (.agg #[.int .i64 kQ, .string sQ, .int .i64 nQ, .slice aQ mQ cQ]) from hu2 ▸ Q_0.out.toX _)
              have hz2 : Below wb.heap.size wb u2 := hz1.trans (hs2.mono hz1.size)
              have HU2 := hide hu2
              clear hu2
              go_simp
              rw [HU2.out]
              refine hK6.out _ _ ?_ (fun hHeld => ?_)
              · exact HS.out _ hz2
              clear hK6 K6
              refine wpAnyH_ready (rs := [4]) (by kernel_rfl) (by simp) ?_
              refine AllReadyH.cons rfl (fun K6 hK6 => ?_) AllReadyH.nil
              go_simp
              refine (fit_x hg2 Q_2.out).mono ?_
              rintro e y3 ⟨kR, sR, nR, aR, mR, cR, rfl, hR, hy3⟩
              have R_0 := hide hR
              clear hR
              have hz3 : Below wb.heap.size wb y3 := hz2.trans (hy3.mono hz2.size)
              have A_3 := hide (A_2.out.below hy3)
              have B_3 := hide (B_2.out.below hy3)
              have Q_3 := hide (Q_2.out.below hy3)
              have hA3 := hide (hA2.out.below hy3 hA2.out.lt)
              have hg3 : y1.heap.size < y3.heap.size := Nat.lt_of_lt_of_le hg2 hy3.size
              go_simp
              refine hK6.out _ _ ?_ (fun hHeld => ?_)
              · exact HS.out _ hz3
              clear hK6 K6
              refine wpAnyH_ready (rs := [6]) (by kernel_rfl) (by simp) ?_
              refine AllReadyH.cons rfl (fun K6 hK6 => ?_) AllReadyH.nil
              obtain ⟨u4, hu4⟩ : ∃ u, y3.alloc (.cells #[.int .i64 kR, .string sR, .int .i64 nR, .slice aR mR cR, .int .i64 k2, .string s2, .int .i64 n2, .slice a2 m2 c2] 25) = u := ⟨_, rfl⟩
              have hs4 : Below y3.heap.size y3 u4 := hu4 ▸ (Below.refl _ y3).alloc (Nat.le_refl _) _
              have SL4 := hide (insl_lit (g := y1.heap.size) (IsRow.two R_0.out B_3.out) (by simp [maxLen]))
              have HU4 := hide hu4
              clear hu4
              have hz4 : Below wb.heap.size wb u4 := hz3.trans (hs4.mono hz3.size)
              have A_4 := hide (A_3.out.below hs4)
              have B_4 := hide (B_3.out.below hs4)
              have Q_4 := hide (Q_3.out.below hs4)
              have R_4 := hide (R_0.out.below hs4)
              have hA4 := hide (hA3.out.below hs4 hA3.out.lt)
              have hg4 : y1.heap.size < u4.heap.size := Nat.lt_of_lt_of_le hg3 hs4.size
              go_simp
              rw [HU4.out]
              rw [HU4.out] at SL4
              refine hK6.out _ _ ?_ (fun hHeld => ?_)
              · exact HS.out _ hz4
              clear hK6 K6
              refine wpAnyH_ready (rs := [7]) (by kernel_rfl) (by simp) ?_
              refine AllReadyH.cons rfl (fun K6 hK6 => ?_) AllReadyH.nil
              go_simp
              refine (row_x hg4 SL4.out (by simp) (by simp)).mono ?_
              rintro e y5 ⟨kY, sY, nY, aY, mY, cY, rfl, hY, hy5⟩
              rw [row_2 rfl HKB.out] at hY
              have Y_0 := hide hY
              clear hY
              have hz5 : Below wb.heap.size wb y5 := hz4.trans (hy5.mono hz4.size)
              have A_5 := hide (A_4.out.below hy5)
              have B_5 := hide (B_4.out.below hy5)
              have Q_5 := hide (Q_4.out.below hy5)
              have R_5 := hide (R_4.out.below hy5)
              have hA5 := hide (hA4.out.below hy5 hA4.out.lt)
              have hg5 : y1.heap.size < y5.heap.size := Nat.lt_of_lt_of_le hg4 hy5.size
              go_simp
              refine hK6.out _ _ ?_ (fun hHeld => ?_)
              · exact HS.out _ hz5
              clear hK6 K6
              refine wpAnyH_ready (rs := [9]) (by kernel_rfl) (by simp) ?_
              refine AllReadyH.cons rfl (fun K6 hK6 => ?_) AllReadyH.nil
              obtain ⟨t0, t1, t2, t3⟩ := hA5.out.four
              have tf := hA5.out.frozen
              have hput := hide (s8_put (g := y1.heap.size) (by omega) (by omega) (HS.out _ hz5) (.int .i64 kY) (.string sY) (.int .i64 nY) (.slice aY mY cY))
              go_simp
              refine hK6.out _ _ ?_ (fun hHeld => ?_)
              · exact hput.out
              clear hK6 K6 t0 t1 t2 t3 tf
              refine wpAnyH_done (by kernel_rfl) ?_ _
              go_wp2_with fail
              go_meet
              refine hfix (wx := wb) ?_ hdwb
              exact ⟨_, _, _, _, _, _, _, rfl, hA5.out.put4_ _ _ _ _, Y_0.out.put, below_put4 hz5 (by omega) _ _ _ _⟩
          · skip
            obtain ⟨u1, hu1⟩ : ∃ u, wb.alloc (.cells #[.int .i64 0, .string ⟨#[]⟩, .int .i64 0, .slice none 0 0] 25) = u := ⟨_, rfl⟩
            have hs1 : Below wb.heap.size wb u1 := hu1 ▸ (Below.refl _ wb).alloc (Nat.le_refl _) _
            have hA1 := hide (show Blk u1 wb.heap.size 25 #[.int .i64 0, .string ⟨#[]⟩, .int .i64 0, .slice none 0 0] from hu1 ▸ Blk.new wb 25 _)
            have hg1 := hA1.out.lt
            have hge := (Below.refl wb.heap.size wb).size
            have A_1 := hide (show IsX wb.heap.size u1 da (.agg #[.int .i64 k1, .string s1, .int .i64 n1, .slice a1 m1 c1]) from hu1 ▸ Awb.out.toX _)
            have B_1 := hide (show IsX wb.heap.size u1 db (.agg #[.int .i64 k2, .string s2, .int .i64 n2, .slice a2 m2 c2]) from hu1 ▸ Bwb.out.toX _)
            have hz1 : Below wb.heap.size wb u1 := (Below.refl wb.heap.size wb).trans (hs1.mono (Below.refl wb.heap.size wb).size)
            have HU1 := hide hu1
            clear hu1
            go_simp
            rw [HU1.out]
            refine hK6.out _ _ ?_ (fun hHeld => ?_)
            · exact HS.out _ hz1
            clear hK6 K6
            refine wpAnyH_ready (rs := [3]) (by kernel_rfl) (by simp) ?_
            refine AllReadyH.cons rfl (fun K6 hK6 => ?_) AllReadyH.nil
            go_simp
            refine (in_x n (by omega) hg1 A_1.out).mono ?_
            rintro e y2 ⟨kQ, sQ, nQ, aQ, mQ, cQ, rfl, hQ, hy2⟩
            have Q_0 := hide hQ
            clear hQ
            have hz2 : Below wb.heap.size wb y2 := hz1.trans (hy2.mono hz1.size)
            have A_2 := hide (A_1.out.below hy2)
            have B_2 := hide (B_1.out.below hy2)
            have hA2 := hide (hA1.out.below hy2 hA1.out.lt)
            have hg2 : wb.heap.size < y2.heap.size := Nat.lt_of_lt_of_le hg1 hy2.size
            go_simp
            refine hK6.out _ _ ?_ (fun hHeld => ?_)
            · exact HS.out _ hz2
            clear hK6 K6
            refine wpAnyH_ready (rs := [4]) (by kernel_rfl) (by simp) ?_
            refine AllReadyH.cons rfl (fun K6 hK6 => ?_) AllReadyH.nil
            go_simp
            refine (fit_x hg2 Q_0.out).mono ?_
            rintro e y3 ⟨kR, sR, nR, aR, mR, cR, rfl, hR, hy3⟩
            have R_0 := hide hR
            clear hR
            have hz3 : Below wb.heap.size wb y3 := hz2.trans (hy3.mono hz2.size)
            have A_3 := hide (A_2.out.below hy3)
            have B_3 := hide (B_2.out.below hy3)
            have Q_3 := hide (Q_0.out.below hy3)
            have hA3 := hide (hA2.out.below hy3 hA2.out.lt)
            have hg3 : wb.heap.size < y3.heap.size := Nat.lt_of_lt_of_le hg2 hy3.size
            go_simp
            refine hK6.out _ _ ?_ (fun hHeld => ?_)
            · exact HS.out _ hz3
            clear hK6 K6
            refine wpAnyH_ready (rs := [6]) (by kernel_rfl) (by simp) ?_
            refine AllReadyH.cons rfl (fun K6 hK6 => ?_) AllReadyH.nil
            obtain ⟨u4, hu4⟩ : ∃ u, y3.alloc (.cells #[.int .i64 kR, .string sR, .int .i64 nR, .slice aR mR cR, .int .i64 k2, .string s2, .int .i64 n2, .slice a2 m2 c2] 25) = u := ⟨_, rfl⟩
            have hs4 : Below y3.heap.size y3 u4 := hu4 ▸ (Below.refl _ y3).alloc (Nat.le_refl _) _
            have SL4 := hide (insl_lit (g := wb.heap.size) (IsRow.two R_0.out B_3.out) (by simp [maxLen]))
            have HU4 := hide hu4
            clear hu4
            have hz4 : Below wb.heap.size wb u4 := hz3.trans (hs4.mono hz3.size)
            have A_4 := hide (A_3.out.below hs4)
            have B_4 := hide (B_3.out.below hs4)
            have Q_4 := hide (Q_3.out.below hs4)
            have R_4 := hide (R_0.out.below hs4)
            have hA4 := hide (hA3.out.below hs4 hA3.out.lt)
            have hg4 : wb.heap.size < u4.heap.size := Nat.lt_of_lt_of_le hg3 hs4.size
            go_simp
            rw [HU4.out]
            rw [HU4.out] at SL4
            refine hK6.out _ _ ?_ (fun hHeld => ?_)
            · exact HS.out _ hz4
            clear hK6 K6
            refine wpAnyH_ready (rs := [7]) (by kernel_rfl) (by simp) ?_
            refine AllReadyH.cons rfl (fun K6 hK6 => ?_) AllReadyH.nil
            go_simp
            refine (row_x hg4 SL4.out (by simp) (by simp)).mono ?_
            rintro e y5 ⟨kY, sY, nY, aY, mY, cY, rfl, hY, hy5⟩
            rw [row_2 rfl HKB.out] at hY
            have Y_0 := hide hY
            clear hY
            have hz5 : Below wb.heap.size wb y5 := hz4.trans (hy5.mono hz4.size)
            have A_5 := hide (A_4.out.below hy5)
            have B_5 := hide (B_4.out.below hy5)
            have Q_5 := hide (Q_4.out.below hy5)
            have R_5 := hide (R_4.out.below hy5)
            have hA5 := hide (hA4.out.below hy5 hA4.out.lt)
            have hg5 : wb.heap.size < y5.heap.size := Nat.lt_of_lt_of_le hg4 hy5.size
            go_simp
            refine hK6.out _ _ ?_ (fun hHeld => ?_)
            · exact HS.out _ hz5
            clear hK6 K6
            refine wpAnyH_ready (rs := [9]) (by kernel_rfl) (by simp) ?_
            refine AllReadyH.cons rfl (fun K6 hK6 => ?_) AllReadyH.nil
            obtain ⟨t0, t1, t2, t3⟩ := hA5.out.four
            have tf := hA5.out.frozen
            have hput := hide (s8_put (g := wb.heap.size) (by omega) (by omega) (HS.out _ hz5) (.int .i64 kY) (.string sY) (.int .i64 nY) (.slice aY mY cY))
            go_simp
            refine hK6.out _ _ ?_ (fun hHeld => ?_)
            · exact hput.out
            clear hK6 K6 t0 t1 t2 t3 tf
            refine wpAnyH_done (by kernel_rfl) ?_ _
            go_wp2_with fail
            go_meet
            refine hfix (wx := wb) ?_ hdwb
            exact ⟨_, _, _, _, _, _, _, rfl, hA5.out.put4_ _ _ _ _, Y_0.out.put, below_put4 hz5 (by omega) _ _ _ _⟩
        case rest =>
          obtain ⟨g12, ky, sy, ny, ay, my, cy, rfl, hby, hy, hb8⟩ : MadeAt w7 (.mk 7 ByteArray.empty 0 (.cons (fitD (inD n da)) (.cons db .nil))) u10 wc := hcut
          obtain ⟨w8, rfl⟩ : ∃ w8 : World, w8 = wc := ⟨_, rfl⟩
          have hw8 : Below w.heap.size w w8 := hw7.trans (hb8.mono hw7.size)
          have A8 := hide (A7.out.below hb8)
          have B8 := hide (B7.out.below hb8)
          have X8 := hide (X7.out.below hb8)
          have Y8 := hide hy
          have BA8 := hide (BA7.out.below hb8 BA7.out.lt)
          have BB8 := hide (BB7.out.below hb8 BB7.out.lt)
          have BX8 := hide (BX7.out.below hb8 BX7.out.lt)
          have BY8 := hide hby
          clear p0 p1 p2 p3 q0 q1 q2 q3 hy hby A7 B7 BA7 BB7 X7 BX7
          have HTX := hide (show totD (.mk 7 ByteArray.empty 0 (.cons da (.cons (fitD db) .nil))) ≤ 1000000000 by rw [tot_2, tot_fit]; omega)
          have HTY := hide (show totD (.mk 7 ByteArray.empty 0 (.cons (fitD (inD n da)) (.cons db .nil))) ≤ 1000000000 by rw [tot_2, tot_fit, tot_in]; omega)
          obtain ⟨TA, hTA⟩ : ∃ T : ByteArray, (⟨(textsL (leavesD da)).toArray⟩ : ByteArray) = T := ⟨_, rfl⟩
          obtain ⟨TB, hTB⟩ : ∃ T : ByteArray, (⟨(textsL (leavesD db)).toArray⟩ : ByteArray) = T := ⟨_, rfl⟩
          have HWX := hide (show (⟨(textsL (leavesD (.mk 7 ByteArray.empty 0 (.cons da (.cons (fitD db) .nil))))).toArray⟩ : ByteArray) = TA ++ TB by rw [leaves_2, leaves_fit, textsL_append, arr_append, hTA, hTB])
          have HWY := hide (show (⟨(textsL (leavesD (.mk 7 ByteArray.empty 0 (.cons (fitD (inD n da)) (.cons db .nil))))).toArray⟩ : ByteArray) = TA ++ TB by rw [leaves_2, leaves_fit, leaves_in, textsL_append, arr_append, hTA, hTB])
          have hsA : TA.size ≤ 500 := by rw [← hTA, size_arr]; have := texts_tot da; omega
          have hsB : TB.size ≤ 500 := by rw [← hTB, size_arr]; have := texts_tot db; omega
          have HWA := hide hTA
          have HWB := hide hTB
          clear hTA hTB
          cases ea : hardL (leavesD da) with
          | true =>
            cases eb : hardL (leavesD db) with
            | true =>
              obtain ⟨SA, hSA, hzA⟩ : ∃ S : ByteArray, flatP (leavesD da) = .tuple #[.string S, .bool false] ∧ S.size ≤ 500 := ⟨_, by rw [flatP, ea]; rfl, by rw [if_pos rfl]; decide⟩
              obtain ⟨SB, hSB, hzB⟩ : ∃ S : ByteArray, flatP (leavesD db) = .tuple #[.string S, .bool false] ∧ S.size ≤ 500 := ⟨_, by rw [flatP, eb]; rfl, by rw [if_pos rfl]; decide⟩
              obtain ⟨SX, hFX⟩ : ∃ S : ByteArray, flatP (leavesD (.mk 7 ByteArray.empty 0 (.cons da (.cons (fitD db) .nil)))) = .tuple #[.string S, .bool false] := ⟨_, by rw [leaves_2, leaves_fit, flatP, hardL_append2, ea, eb]; rfl⟩
              obtain ⟨SY, hFY⟩ : ∃ S : ByteArray, flatP (leavesD (.mk 7 ByteArray.empty 0 (.cons (fitD (inD n da)) (.cons db .nil)))) = .tuple #[.string S, .bool false] := ⟨_, by rw [leaves_2, leaves_fit, leaves_in, flatP, hardL_append2, ea, eb]; rfl⟩
              have HFA := hide hSA
              have HFB := hide hSB
              have HFX := hide hFX
              have HFY := hide hFY
              clear hSA hSB hFX hFY ea eb
              obtain ⟨p0, p1, p2, p3⟩ := BA8.out.four
              go_wp2_with fail
              refine (flat_m A8.out (by omega)).mono ?_
              rintro e v1 ⟨rfl, hv1⟩
              rw [HFA.out]
              have hx1 : Below w8.heap.size w8 v1 := (Below.refl w8.heap.size w8).trans (hv1.mono (Below.refl w8.heap.size w8).size)
              clear p0 p1 p2 p3
              obtain ⟨p0, p1, p2, p3⟩ := (BB8.out.below hx1 BB8.out.lt).four
              go_wp2_with fail
              refine (flat_m (B8.out.below hx1) (by omega)).mono ?_
              rintro e v2 ⟨rfl, hv2⟩
              rw [HFB.out]
              have hx2 : Below w8.heap.size w8 v2 := hx1.trans (hv2.mono hx1.size)
              clear p0 p1 p2 p3
              obtain ⟨p0, p1, p2, p3⟩ := (BX8.out.below hx2 BX8.out.lt).four
              go_wp2_with fail
              refine (flat_m (X8.out.below hx2) HTX.out).mono ?_
              rintro e v3 ⟨rfl, hv3⟩
              rw [HFX.out]
              have hx3 : Below w8.heap.size w8 v3 := hx2.trans (hv3.mono hx2.size)
              clear p0 p1 p2 p3
              obtain ⟨p0, p1, p2, p3⟩ := (BY8.out.below hx3 BY8.out.lt).four
              go_wp2_with fail
              refine (flat_m (Y8.out.below hx3) HTY.out).mono ?_
              rintro e v4 ⟨rfl, hv4⟩
              rw [HFY.out]
              have hx4 : Below w8.heap.size w8 v4 := hx3.trans (hv4.mono hx3.size)
              clear p0 p1 p2 p3
              obtain ⟨wc2, hwc2⟩ : ∃ u, v4.drew = u := ⟨_, rfl⟩
              have hdc : Below v4.heap.size v4 wc2 := hwc2 ▸ (Below.refl _ v4).drew
              have hb9 : Below w8.heap.size w8 wc2 := hx4.trans (hdc.mono hx4.size)
              have hwB : Below w.heap.size w wc2 := hw8.trans (hb9.mono hw8.size)
              obtain ⟨p0, p1, p2, p3⟩ := (BA8.out.below hx4 BA8.out.lt).four
              obtain ⟨q0, q1, q2, q3⟩ := (BB8.out.below hx4 BB8.out.lt).four
              obtain ⟨r0, r1, r2, r3⟩ := (BX8.out.below hx4 BX8.out.lt).four
              obtain ⟨t0, t1, t2, t3⟩ := (BY8.out.below hx4 BY8.out.lt).four
              have A9 := hide (A8.out.below hb9)
              have B9 := hide (B8.out.below hb9)
              have X9 := hide (X8.out.below hb9)
              have Y9 := hide (Y8.out.below hb9)
              have hS : ∀ wn, Below wc2.heap.size wc2 wn → (fun w' => w'.cell? ⟨w1.heap.size, 0, none⟩ = some (.int .i64 k1) ∧ w'.cell? ⟨w1.heap.size, 1, none⟩ = some (.string s1) ∧ w'.cell? ⟨w1.heap.size, 2, none⟩ = some (.int .i64 n1) ∧ w'.cell? ⟨w1.heap.size, 3, none⟩ = some (.slice a1 m1 c1) ∧ w'.cell? ⟨w3.heap.size, 0, none⟩ = some (.int .i64 k2) ∧ w'.cell? ⟨w3.heap.size, 1, none⟩ = some (.string s2) ∧ w'.cell? ⟨w3.heap.size, 2, none⟩ = some (.int .i64 n2) ∧ w'.cell? ⟨w3.heap.size, 3, none⟩ = some (.slice a2 m2 c2) ∧ w'.cell? ⟨g11, 0, none⟩ = some (.int .i64 kx) ∧ w'.cell? ⟨g11, 1, none⟩ = some (.string sx) ∧ w'.cell? ⟨g11, 2, none⟩ = some (.int .i64 nx) ∧ w'.cell? ⟨g11, 3, none⟩ = some (.slice ax mx cx) ∧ w'.cell? ⟨g12, 0, none⟩ = some (.int .i64 ky) ∧ w'.cell? ⟨g12, 1, none⟩ = some (.string sy) ∧ w'.cell? ⟨g12, 2, none⟩ = some (.int .i64 ny) ∧ w'.cell? ⟨g12, 3, none⟩ = some (.slice ay my cy)) wn := fun wn h => by
                have h6 : Below w8.heap.size w8 wn := hb9.trans (h.mono hb9.size)
                obtain ⟨e0, e1, e2, e3⟩ := (BA8.out.below h6 BA8.out.lt).four
                obtain ⟨f0, f1, f2, f3⟩ := (BB8.out.below h6 BB8.out.lt).four
                obtain ⟨i0, i1, i2, i3⟩ := (BX8.out.below h6 BX8.out.lt).four
                obtain ⟨j0, j1, j2, j3⟩ := (BY8.out.below h6 BY8.out.lt).four
                exact ⟨e0, e1, e2, e3, f0, f1, f2, f3, i0, i1, i2, i3, j0, j1, j2, j3⟩
              have HS := hide hS
              clear hS hb9 hdc hx1 hx2 hx3
              go_wp2_with fail
              refine wp_region_held_drew (S := fun w' => w'.cell? ⟨w1.heap.size, 0, none⟩ = some (.int .i64 k1) ∧ w'.cell? ⟨w1.heap.size, 1, none⟩ = some (.string s1) ∧ w'.cell? ⟨w1.heap.size, 2, none⟩ = some (.int .i64 n1) ∧ w'.cell? ⟨w1.heap.size, 3, none⟩ = some (.slice a1 m1 c1) ∧ w'.cell? ⟨w3.heap.size, 0, none⟩ = some (.int .i64 k2) ∧ w'.cell? ⟨w3.heap.size, 1, none⟩ = some (.string s2) ∧ w'.cell? ⟨w3.heap.size, 2, none⟩ = some (.int .i64 n2) ∧ w'.cell? ⟨w3.heap.size, 3, none⟩ = some (.slice a2 m2 c2) ∧ w'.cell? ⟨g11, 0, none⟩ = some (.int .i64 kx) ∧ w'.cell? ⟨g11, 1, none⟩ = some (.string sx) ∧ w'.cell? ⟨g11, 2, none⟩ = some (.int .i64 nx) ∧ w'.cell? ⟨g11, 3, none⟩ = some (.slice ax mx cx) ∧ w'.cell? ⟨g12, 0, none⟩ = some (.int .i64 ky) ∧ w'.cell? ⟨g12, 1, none⟩ = some (.string sy) ∧ w'.cell? ⟨g12, 2, none⟩ = some (.int .i64 ny) ∧ w'.cell? ⟨g12, 3, none⟩ = some (.slice ay my cy)) (by kernel_rfl) ?_ (fun hHeld => ?_)
              · exact ⟨p0, p1, p2, p3, q0, q1, q2, q3, r0, r1, r2, r3, t0, t1, t2, t3⟩
              rw [hwc2] at hHeld ⊢
              refine wpAnyH_ready (rs := [0]) (by kernel_rfl) (by simp) ?_
              refine AllReadyH.cons rfl (fun K hK => ?_) AllReadyH.nil
              go_simp
              refine (known_any wc2).mono ?_
              rintro e y1 ⟨rfl, hy1⟩
              have hz1 : Below wc2.heap.size wc2 y1 := (Below.refl wc2.heap.size wc2).trans (hy1.mono (Below.refl wc2.heap.size wc2).size)
              go_simp
              refine hK.out _ _ ?_ (fun hHeld => ?_)
              · exact HS.out _ hz1
              clear hK K
              refine wpAnyH_take (i := 1) (v := ?_) rfl (by kernel_rfl) (by kernel_rfl) (by kernel_rfl) (fun _ _ _ h => h) (Or.inl ⟨by rfl, ?_⟩) (by assumption) ?_
              rotate_left
              · intro w hSw; (try dsimp only at hSw); (try go_split_ands); go_simp
                all_goals with_reducible rfl
              try simp only [Act.put, List.getElem_toArray, List.getElem_cons_zero, List.getElem_cons_succ, List.setIfInBounds_toArray, List.set_cons_zero, List.set_cons_succ]
              refine wpAnyH_take (i := 2) (v := ?_) rfl (by kernel_rfl) (by kernel_rfl) (by kernel_rfl) (fun _ _ _ h => h) (Or.inl ⟨by rfl, ?_⟩) (by assumption) ?_
              rotate_left
              · intro w hSw; (try dsimp only at hSw); (try go_split_ands); go_simp
                all_goals with_reducible rfl
              try simp only [Act.put, List.getElem_toArray, List.getElem_cons_zero, List.getElem_cons_succ, List.setIfInBounds_toArray, List.set_cons_zero, List.set_cons_succ]
              refine wpAnyH_take (i := 4) (v := ?_) rfl (by kernel_rfl) (by kernel_rfl) (by kernel_rfl) (fun _ _ _ h => h) (Or.inl ⟨by rfl, ?_⟩) (by assumption) ?_
              rotate_left
              · intro w hSw; (try dsimp only at hSw); (try go_split_ands); go_simp
                all_goals with_reducible rfl
              try simp only [Act.put, List.getElem_toArray, List.getElem_cons_zero, List.getElem_cons_succ, List.setIfInBounds_toArray, List.set_cons_zero, List.set_cons_succ]
              refine wpAnyH_take (i := 6) (v := ?_) rfl (by kernel_rfl) (by kernel_rfl) (by kernel_rfl) (fun _ _ _ h => h) (Or.inl ⟨by rfl, ?_⟩) (by assumption) ?_
              rotate_left
              · intro w hSw; (try dsimp only at hSw); (try go_split_ands); go_simp
                all_goals with_reducible rfl
              try simp only [Act.put, List.getElem_toArray, List.getElem_cons_zero, List.getElem_cons_succ, List.setIfInBounds_toArray, List.set_cons_zero, List.set_cons_succ]
              refine wpAnyH_ready (rs := [3]) (by kernel_rfl) (by simp) ?_
              refine AllReadyH.cons rfl (fun K hK => ?_) AllReadyH.nil
              go_simp
              refine (words_m (X9.out.below hz1) HTX.out).mono ?_
              rintro e y2 ⟨rfl, hy2⟩
              rw [HWX.out]
              have hz2 : Below wc2.heap.size wc2 y2 := hz1.trans (hy2.mono hz1.size)
              go_simp
              refine hK.out _ _ ?_ (fun hHeld => ?_)
              · exact HS.out _ hz2
              clear hK K
              refine wpAnyH_ready (rs := [5]) (by kernel_rfl) (by simp) ?_
              refine AllReadyH.cons rfl (fun K hK => ?_) AllReadyH.nil
              go_simp
              refine (words_m (A9.out.below hz2) (by omega)).mono ?_
              rintro e y3 ⟨rfl, hy3⟩
              rw [HWA.out]
              have hz3 : Below wc2.heap.size wc2 y3 := hz2.trans (hy3.mono hz2.size)
              go_simp
              refine hK.out _ _ ?_ (fun hHeld => ?_)
              · exact HS.out _ hz3
              clear hK K
              refine wpAnyH_ready (rs := [7]) (by kernel_rfl) (by simp) ?_
              refine AllReadyH.cons rfl (fun K hK => ?_) AllReadyH.nil
              go_simp
              refine (words_m (B9.out.below hz3) (by omega)).mono ?_
              rintro e y4 ⟨rfl, hy4⟩
              rw [HWB.out]
              have hz4 : Below wc2.heap.size wc2 y4 := hz3.trans (hy4.mono hz3.size)
              go_simp
              refine hK.out _ _ ?_ (fun hHeld => ?_)
              · exact HS.out _ hz4
              clear hK K
              have hab : ¬ 9223372036854775807 < TA.size + TB.size := by omega
              refine wpAnyH_take (i := 8) (v := ?_) rfl (by kernel_rfl) (by kernel_rfl) (by kernel_rfl) (fun _ _ _ h => h) (Or.inl ⟨by rfl, ?_⟩) (by assumption) ?_
              rotate_left
              · intro w hSw; (try dsimp only at hSw); (try go_split_ands); go_simp
                all_goals with_reducible rfl
              try simp only [Act.put, List.getElem_toArray, List.getElem_cons_zero, List.getElem_cons_succ, List.setIfInBounds_toArray, List.set_cons_zero, List.set_cons_succ]
              clear hab
              refine wpAnyH_take (i := 9) (v := ?_) rfl (by kernel_rfl) (by kernel_rfl) (by kernel_rfl) (fun _ _ _ h => h) (Or.inl ⟨by rfl, ?_⟩) (by assumption) ?_
              rotate_left
              · intro w hSw; (try dsimp only at hSw); (try go_split_ands); go_simp
                all_goals with_reducible rfl
              try simp only [Act.put, List.getElem_toArray, List.getElem_cons_zero, List.getElem_cons_succ, List.setIfInBounds_toArray, List.set_cons_zero, List.set_cons_succ]
              refine wpAnyH_take (i := 10) (v := ?_) rfl (by kernel_rfl) (by kernel_rfl) (by kernel_rfl) (fun _ _ _ h => h) (Or.inl ⟨by rfl, ?_⟩) (by assumption) ?_
              rotate_left
              · intro w hSw; (try dsimp only at hSw); (try go_split_ands); go_simp
                all_goals with_reducible rfl
              try simp only [Act.put, List.getElem_toArray, List.getElem_cons_zero, List.getElem_cons_succ, List.setIfInBounds_toArray, List.set_cons_zero, List.set_cons_succ]
              refine wpAnyH_take (i := 11) (v := ?_) rfl (by kernel_rfl) (by kernel_rfl) (by kernel_rfl) (fun _ _ _ h => h) (Or.inl ⟨by rfl, ?_⟩) (by assumption) ?_
              rotate_left
              · intro w hSw; (try dsimp only at hSw); (try go_split_ands); go_simp
                all_goals with_reducible rfl
              try simp only [Act.put, List.getElem_toArray, List.getElem_cons_zero, List.getElem_cons_succ, List.setIfInBounds_toArray, List.set_cons_zero, List.set_cons_succ]
              refine wpAnyH_take (i := 12) (v := ?_) rfl (by kernel_rfl) (by kernel_rfl) (by kernel_rfl) (fun _ _ _ h => h) (Or.inl ⟨by rfl, ?_⟩) (by assumption) ?_
              rotate_left
              · intro w hSw; (try dsimp only at hSw); (try go_split_ands); go_simp
                all_goals with_reducible rfl
              try simp only [Act.put, List.getElem_toArray, List.getElem_cons_zero, List.getElem_cons_succ, List.setIfInBounds_toArray, List.set_cons_zero, List.set_cons_succ]
              refine wpAnyH_take (i := 14) (v := ?_) rfl (by kernel_rfl) (by kernel_rfl) (by kernel_rfl) (fun _ _ _ h => h) (Or.inl ⟨by rfl, ?_⟩) (by assumption) ?_
              rotate_left
              · intro w hSw; (try dsimp only at hSw); (try go_split_ands); go_simp
                all_goals with_reducible rfl
              try simp only [Act.put, List.getElem_toArray, List.getElem_cons_zero, List.getElem_cons_succ, List.setIfInBounds_toArray, List.set_cons_zero, List.set_cons_succ]
              refine wpAnyH_ready (rs := [13]) (by kernel_rfl) (by simp) ?_
              refine AllReadyH.cons rfl (fun K hK => ?_) AllReadyH.nil
              go_simp
              refine (words_m (Y9.out.below hz4) HTY.out).mono ?_
              rintro e y5 ⟨rfl, hy5⟩
              rw [HWY.out]
              have hz5 : Below wc2.heap.size wc2 y5 := hz4.trans (hy5.mono hz4.size)
              go_simp
              refine hK.out _ _ ?_ (fun hHeld => ?_)
              · exact HS.out _ hz5
              clear hK K
              refine wpAnyH_ready (rs := [15]) (by kernel_rfl) (by simp) ?_
              refine AllReadyH.cons rfl (fun K hK => ?_) AllReadyH.nil
              go_simp
              refine (words_m (X9.out.below hz5) HTX.out).mono ?_
              rintro e y6 ⟨rfl, hy6⟩
              rw [HWX.out]
              have hz6 : Below wc2.heap.size wc2 y6 := hz5.trans (hy6.mono hz5.size)
              go_simp
              refine hK.out _ _ ?_ (fun hHeld => ?_)
              · exact HS.out _ hz6
              clear hK K
              refine wpAnyH_take (i := 16) (v := ?_) rfl (by kernel_rfl) (by kernel_rfl) (by kernel_rfl) (fun _ _ _ h => h) (Or.inl ⟨by rfl, ?_⟩) (by assumption) ?_
              rotate_left
              · intro w hSw; (try dsimp only at hSw); (try go_split_ands); go_simp
                all_goals with_reducible rfl
              try simp only [Act.put, List.getElem_toArray, List.getElem_cons_zero, List.getElem_cons_succ, List.setIfInBounds_toArray, List.set_cons_zero, List.set_cons_succ]
              refine wpAnyH_take (i := 17) (v := ?_) rfl (by kernel_rfl) (by kernel_rfl) (by kernel_rfl) (fun _ _ _ h => h) (Or.inl ⟨by rfl, ?_⟩) (by assumption) ?_
              rotate_left
              · intro w hSw; (try dsimp only at hSw); (try go_split_ands); go_simp
                all_goals with_reducible rfl
              try simp only [Act.put, List.getElem_toArray, List.getElem_cons_zero, List.getElem_cons_succ, List.setIfInBounds_toArray, List.set_cons_zero, List.set_cons_succ]
              refine wpAnyH_take (i := 18) (v := ?_) rfl (by kernel_rfl) (by kernel_rfl) (by kernel_rfl) (fun _ _ _ h => h) (Or.inl ⟨by rfl, ?_⟩) (by assumption) ?_
              rotate_left
              · intro w hSw; (try dsimp only at hSw); (try go_split_ands); go_simp
                all_goals with_reducible rfl
              try simp only [Act.put, List.getElem_toArray, List.getElem_cons_zero, List.getElem_cons_succ, List.setIfInBounds_toArray, List.set_cons_zero, List.set_cons_succ]
              refine wpAnyH_take (i := 19) (v := ?_) rfl (by kernel_rfl) (by kernel_rfl) (by kernel_rfl) (fun _ _ _ h => h) (Or.inl ⟨by rfl, ?_⟩) (by assumption) ?_
              rotate_left
              · intro w hSw; (try dsimp only at hSw); (try go_split_ands); go_simp
                all_goals with_reducible rfl
              try simp only [Act.put, List.getElem_toArray, List.getElem_cons_zero, List.getElem_cons_succ, List.setIfInBounds_toArray, List.set_cons_zero, List.set_cons_succ]
              refine wpAnyH_take (i := 20) (v := ?_) rfl (by kernel_rfl) (by kernel_rfl) (by kernel_rfl) (fun _ _ _ h => h) (Or.inl ⟨by rfl, ?_⟩) (by assumption) ?_
              rotate_left
              · intro w hSw; (try dsimp only at hSw); (try go_split_ands); go_simp
                all_goals with_reducible rfl
              try simp only [Act.put, List.getElem_toArray, List.getElem_cons_zero, List.getElem_cons_succ, List.setIfInBounds_toArray, List.set_cons_zero, List.set_cons_succ]
              refine wpAnyH_take (i := 21) (v := ?_) rfl (by kernel_rfl) (by kernel_rfl) (by kernel_rfl) (fun _ _ _ h => h) (Or.inl ⟨by rfl, ?_⟩) (by assumption) ?_
              rotate_left
              · intro w hSw; (try dsimp only at hSw); (try go_split_ands); go_simp
                all_goals with_reducible rfl
              try simp only [Act.put, List.getElem_toArray, List.getElem_cons_zero, List.getElem_cons_succ, List.setIfInBounds_toArray, List.set_cons_zero, List.set_cons_succ]
              refine wpAnyH_take (i := 22) (v := undef) rfl (by kernel_rfl) (by kernel_rfl) (by kernel_rfl) (fun _ _ _ h => h) (Or.inr ⟨by rfl, rfl⟩) (by assumption) ?_
              try simp only [Act.put, List.getElem_toArray, List.getElem_cons_zero, List.getElem_cons_succ, List.setIfInBounds_toArray, List.set_cons_zero, List.set_cons_succ]
              refine wpAnyH_take (i := 23) (v := ?_) rfl (by kernel_rfl) (by kernel_rfl) (by kernel_rfl) (fun _ _ _ h => h) (Or.inl ⟨by rfl, ?_⟩) (by assumption) ?_
              rotate_left
              · intro w hSw; (try dsimp only at hSw); (try go_split_ands); go_simp
                all_goals with_reducible rfl
              try simp only [Act.put, List.getElem_toArray, List.getElem_cons_zero, List.getElem_cons_succ, List.setIfInBounds_toArray, List.set_cons_zero, List.set_cons_succ]
              refine wpAnyH_take (i := 24) (v := ?_) rfl (by kernel_rfl) (by kernel_rfl) (by kernel_rfl) (fun _ _ _ h => h) (Or.inl ⟨by rfl, ?_⟩) (by assumption) ?_
              rotate_left
              · intro w hSw; (try dsimp only at hSw); (try go_split_ands); go_simp
                all_goals with_reducible rfl
              try simp only [Act.put, List.getElem_toArray, List.getElem_cons_zero, List.getElem_cons_succ, List.setIfInBounds_toArray, List.set_cons_zero, List.set_cons_succ]
              refine wpAnyH_take (i := 25) (v := ?_) rfl (by kernel_rfl) (by kernel_rfl) (by kernel_rfl) (fun _ _ _ h => h) (Or.inl ⟨by rfl, ?_⟩) (by assumption) ?_
              rotate_left
              · intro w hSw; (try dsimp only at hSw); (try go_split_ands); go_simp
                all_goals with_reducible rfl
              try simp only [Act.put, List.getElem_toArray, List.getElem_cons_zero, List.getElem_cons_succ, List.setIfInBounds_toArray, List.set_cons_zero, List.set_cons_succ]
              refine wpAnyH_take (i := 26) (v := ?_) rfl (by kernel_rfl) (by kernel_rfl) (by kernel_rfl) (fun _ _ _ h => h) (Or.inl ⟨by rfl, ?_⟩) (by assumption) ?_
              rotate_left
              · intro w hSw; (try dsimp only at hSw); (try go_split_ands); go_simp
                all_goals with_reducible rfl
              try simp only [Act.put, List.getElem_toArray, List.getElem_cons_zero, List.getElem_cons_succ, List.setIfInBounds_toArray, List.set_cons_zero, List.set_cons_succ]
              refine wpAnyH_take (i := 27) (v := ?_) rfl (by kernel_rfl) (by kernel_rfl) (by kernel_rfl) (fun _ _ _ h => h) (Or.inl ⟨by rfl, ?_⟩) (by assumption) ?_
              rotate_left
              · intro w hSw; (try dsimp only at hSw); (try go_split_ands); go_simp
                all_goals with_reducible rfl
              try simp only [Act.put, List.getElem_toArray, List.getElem_cons_zero, List.getElem_cons_succ, List.setIfInBounds_toArray, List.set_cons_zero, List.set_cons_succ]
              refine wpAnyH_take (i := 28) (v := ?_) rfl (by kernel_rfl) (by kernel_rfl) (by kernel_rfl) (fun _ _ _ h => h) (Or.inl ⟨by rfl, ?_⟩) (by assumption) ?_
              rotate_left
              · intro w hSw; (try dsimp only at hSw); (try go_split_ands); go_simp
                all_goals with_reducible rfl
              try simp only [Act.put, List.getElem_toArray, List.getElem_cons_zero, List.getElem_cons_succ, List.setIfInBounds_toArray, List.set_cons_zero, List.set_cons_succ]
              refine wpAnyH_take (i := 29) (v := ?_) rfl (by kernel_rfl) (by kernel_rfl) (by kernel_rfl) (fun _ _ _ h => h) (Or.inl ⟨by rfl, ?_⟩) (by assumption) ?_
              rotate_left
              · intro w hSw; (try dsimp only at hSw); (try go_split_ands); go_simp
                all_goals with_reducible rfl
              try simp only [Act.put, List.getElem_toArray, List.getElem_cons_zero, List.getElem_cons_succ, List.setIfInBounds_toArray, List.set_cons_zero, List.set_cons_succ]
              refine wpAnyH_take (i := 30) (v := ?_) rfl (by kernel_rfl) (by kernel_rfl) (by kernel_rfl) (fun _ _ _ h => h) (Or.inl ⟨by rfl, ?_⟩) (by assumption) ?_
              rotate_left
              · intro w hSw; (try dsimp only at hSw); (try go_split_ands); go_simp
                all_goals with_reducible rfl
              try simp only [Act.put, List.getElem_toArray, List.getElem_cons_zero, List.getElem_cons_succ, List.setIfInBounds_toArray, List.set_cons_zero, List.set_cons_succ]
              refine wpAnyH_take (i := 31) (v := ?_) rfl (by kernel_rfl) (by kernel_rfl) (by kernel_rfl) (fun _ _ _ h => h) (Or.inl ⟨by rfl, ?_⟩) (by assumption) ?_
              rotate_left
              · intro w hSw; (try dsimp only at hSw); (try go_split_ands); go_simp
                all_goals with_reducible rfl
              try simp only [Act.put, List.getElem_toArray, List.getElem_cons_zero, List.getElem_cons_succ, List.setIfInBounds_toArray, List.set_cons_zero, List.set_cons_succ]
              refine wpAnyH_take (i := 32) (v := ?_) rfl (by kernel_rfl) (by kernel_rfl) (by kernel_rfl) (fun _ _ _ h => h) (Or.inl ⟨by rfl, ?_⟩) (by assumption) ?_
              rotate_left
              · intro w hSw; (try dsimp only at hSw); (try go_split_ands); go_simp
                all_goals with_reducible rfl
              try simp only [Act.put, List.getElem_toArray, List.getElem_cons_zero, List.getElem_cons_succ, List.setIfInBounds_toArray, List.set_cons_zero, List.set_cons_succ]
              refine wpAnyH_take (i := 33) (v := ?_) rfl (by kernel_rfl) (by kernel_rfl) (by kernel_rfl) (fun _ _ _ h => h) (Or.inl ⟨by rfl, ?_⟩) (by assumption) ?_
              rotate_left
              · intro w hSw; (try dsimp only at hSw); (try go_split_ands); go_simp
                all_goals with_reducible rfl
              try simp only [Act.put, List.getElem_toArray, List.getElem_cons_zero, List.getElem_cons_succ, List.setIfInBounds_toArray, List.set_cons_zero, List.set_cons_succ]
              refine wpAnyH_take (i := 34) (v := ?_) rfl (by kernel_rfl) (by kernel_rfl) (by kernel_rfl) (fun _ _ _ h => h) (Or.inl ⟨by rfl, ?_⟩) (by assumption) ?_
              rotate_left
              · intro w hSw; (try dsimp only at hSw); (try go_split_ands); go_simp
                all_goals with_reducible rfl
              try simp only [Act.put, List.getElem_toArray, List.getElem_cons_zero, List.getElem_cons_succ, List.setIfInBounds_toArray, List.set_cons_zero, List.set_cons_succ]
              refine wpAnyH_take (i := 35) (v := undef) rfl (by kernel_rfl) (by kernel_rfl) (by kernel_rfl) (fun _ _ _ h => h) (Or.inr ⟨by rfl, rfl⟩) (by assumption) ?_
              try simp only [Act.put, List.getElem_toArray, List.getElem_cons_zero, List.getElem_cons_succ, List.setIfInBounds_toArray, List.set_cons_zero, List.set_cons_succ]
              refine wpAnyH_take (i := 36) (v := undef) rfl (by kernel_rfl) (by kernel_rfl) (by kernel_rfl) (fun _ _ _ h => h) (Or.inr ⟨by rfl, rfl⟩) (by assumption) ?_
              try simp only [Act.put, List.getElem_toArray, List.getElem_cons_zero, List.getElem_cons_succ, List.setIfInBounds_toArray, List.set_cons_zero, List.set_cons_succ]
              refine wpAnyH_take (i := 37) (v := undef) rfl (by kernel_rfl) (by kernel_rfl) (by kernel_rfl) (fun _ _ _ h => h) (Or.inr ⟨by rfl, rfl⟩) (by assumption) ?_
              try simp only [Act.put, List.getElem_toArray, List.getElem_cons_zero, List.getElem_cons_succ, List.setIfInBounds_toArray, List.set_cons_zero, List.set_cons_succ]
              refine wpAnyH_take (i := 38) (v := undef) rfl (by kernel_rfl) (by kernel_rfl) (by kernel_rfl) (fun _ _ _ h => h) (Or.inr ⟨by rfl, rfl⟩) (by assumption) ?_
              try simp only [Act.put, List.getElem_toArray, List.getElem_cons_zero, List.getElem_cons_succ, List.setIfInBounds_toArray, List.set_cons_zero, List.set_cons_succ]
              refine wpAnyH_take (i := 39) (v := undef) rfl (by kernel_rfl) (by kernel_rfl) (by kernel_rfl) (fun _ _ _ h => h) (Or.inr ⟨by rfl, rfl⟩) (by assumption) ?_
              try simp only [Act.put, List.getElem_toArray, List.getElem_cons_zero, List.getElem_cons_succ, List.setIfInBounds_toArray, List.set_cons_zero, List.set_cons_succ]
              refine wpAnyH_take (i := 40) (v := undef) rfl (by kernel_rfl) (by kernel_rfl) (by kernel_rfl) (fun _ _ _ h => h) (Or.inr ⟨by rfl, rfl⟩) (by assumption) ?_
              try simp only [Act.put, List.getElem_toArray, List.getElem_cons_zero, List.getElem_cons_succ, List.setIfInBounds_toArray, List.set_cons_zero, List.set_cons_succ]
              refine wpAnyH_take (i := 41) (v := undef) rfl (by kernel_rfl) (by kernel_rfl) (by kernel_rfl) (fun _ _ _ h => h) (Or.inr ⟨by rfl, rfl⟩) (by assumption) ?_
              try simp only [Act.put, List.getElem_toArray, List.getElem_cons_zero, List.getElem_cons_succ, List.setIfInBounds_toArray, List.set_cons_zero, List.set_cons_succ]
              refine wpAnyH_take (i := 42) (v := undef) rfl (by kernel_rfl) (by kernel_rfl) (by kernel_rfl) (fun _ _ _ h => h) (Or.inr ⟨by rfl, rfl⟩) (by assumption) ?_
              try simp only [Act.put, List.getElem_toArray, List.getElem_cons_zero, List.getElem_cons_succ, List.setIfInBounds_toArray, List.set_cons_zero, List.set_cons_succ]
              refine wpAnyH_take (i := 43) (v := undef) rfl (by kernel_rfl) (by kernel_rfl) (by kernel_rfl) (fun _ _ _ h => h) (Or.inr ⟨by rfl, rfl⟩) (by assumption) ?_
              try simp only [Act.put, List.getElem_toArray, List.getElem_cons_zero, List.getElem_cons_succ, List.setIfInBounds_toArray, List.set_cons_zero, List.set_cons_succ]
              refine wpAnyH_take (i := 44) (v := undef) rfl (by kernel_rfl) (by kernel_rfl) (by kernel_rfl) (fun _ _ _ h => h) (Or.inr ⟨by rfl, rfl⟩) (by assumption) ?_
              try simp only [Act.put, List.getElem_toArray, List.getElem_cons_zero, List.getElem_cons_succ, List.setIfInBounds_toArray, List.set_cons_zero, List.set_cons_succ]
              refine wpAnyH_take (i := 45) (v := ?_) rfl (by kernel_rfl) (by kernel_rfl) (by kernel_rfl) (fun _ _ _ h => h) (Or.inl ⟨by rfl, ?_⟩) (by assumption) ?_
              rotate_left
              · intro w hSw; (try dsimp only at hSw); (try go_split_ands); go_simp
                all_goals with_reducible rfl
              try simp only [Act.put, List.getElem_toArray, List.getElem_cons_zero, List.getElem_cons_succ, List.setIfInBounds_toArray, List.set_cons_zero, List.set_cons_succ]
              refine wpAnyH_take (i := 46) (v := ?_) rfl (by kernel_rfl) (by kernel_rfl) (by kernel_rfl) (fun _ _ _ h => h) (Or.inl ⟨by rfl, ?_⟩) (by assumption) ?_
              rotate_left
              · intro w hSw; (try dsimp only at hSw); (try go_split_ands); go_simp
                all_goals with_reducible rfl
              try simp only [Act.put, List.getElem_toArray, List.getElem_cons_zero, List.getElem_cons_succ, List.setIfInBounds_toArray, List.set_cons_zero, List.set_cons_succ]
              refine wpAnyH_take (i := 47) (v := ?_) rfl (by kernel_rfl) (by kernel_rfl) (by kernel_rfl) (fun _ _ _ h => h) (Or.inl ⟨by rfl, ?_⟩) (by assumption) ?_
              rotate_left
              · intro w hSw; (try dsimp only at hSw); (try go_split_ands); go_simp
                all_goals with_reducible rfl
              try simp only [Act.put, List.getElem_toArray, List.getElem_cons_zero, List.getElem_cons_succ, List.setIfInBounds_toArray, List.set_cons_zero, List.set_cons_succ]
              refine wpAnyH_done (by kernel_rfl) ?_ _
              go_wp2_with fail
              go_ret
              exact ⟨rfl, hwB.trans (hz6.mono hwB.size)⟩
            | false =>
              obtain ⟨SA, hSA, hzA⟩ : ∃ S : ByteArray, flatP (leavesD da) = .tuple #[.string S, .bool false] ∧ S.size ≤ 500 := ⟨_, by rw [flatP, ea]; rfl, by rw [if_pos rfl]; decide⟩
              obtain ⟨SB, hSB, hzB⟩ : ∃ S : ByteArray, flatP (leavesD db) = .tuple #[.string S, .bool true] ∧ S.size ≤ 500 := ⟨_, by rw [flatP, eb]; rfl, by rw [if_neg (by decide), size_arr]; have := line_tot db; omega⟩
              obtain ⟨SX, hFX⟩ : ∃ S : ByteArray, flatP (leavesD (.mk 7 ByteArray.empty 0 (.cons da (.cons (fitD db) .nil)))) = .tuple #[.string S, .bool false] := ⟨_, by rw [leaves_2, leaves_fit, flatP, hardL_append2, ea, eb]; rfl⟩
              obtain ⟨SY, hFY⟩ : ∃ S : ByteArray, flatP (leavesD (.mk 7 ByteArray.empty 0 (.cons (fitD (inD n da)) (.cons db .nil)))) = .tuple #[.string S, .bool false] := ⟨_, by rw [leaves_2, leaves_fit, leaves_in, flatP, hardL_append2, ea, eb]; rfl⟩
              have HFA := hide hSA
              have HFB := hide hSB
              have HFX := hide hFX
              have HFY := hide hFY
              clear hSA hSB hFX hFY ea eb
              obtain ⟨p0, p1, p2, p3⟩ := BA8.out.four
              go_wp2_with fail
              refine (flat_m A8.out (by omega)).mono ?_
              rintro e v1 ⟨rfl, hv1⟩
              rw [HFA.out]
              have hx1 : Below w8.heap.size w8 v1 := (Below.refl w8.heap.size w8).trans (hv1.mono (Below.refl w8.heap.size w8).size)
              clear p0 p1 p2 p3
              obtain ⟨p0, p1, p2, p3⟩ := (BB8.out.below hx1 BB8.out.lt).four
              go_wp2_with fail
              refine (flat_m (B8.out.below hx1) (by omega)).mono ?_
              rintro e v2 ⟨rfl, hv2⟩
              rw [HFB.out]
              have hx2 : Below w8.heap.size w8 v2 := hx1.trans (hv2.mono hx1.size)
              clear p0 p1 p2 p3
              obtain ⟨p0, p1, p2, p3⟩ := (BX8.out.below hx2 BX8.out.lt).four
              go_wp2_with fail
              refine (flat_m (X8.out.below hx2) HTX.out).mono ?_
              rintro e v3 ⟨rfl, hv3⟩
              rw [HFX.out]
              have hx3 : Below w8.heap.size w8 v3 := hx2.trans (hv3.mono hx2.size)
              clear p0 p1 p2 p3
              obtain ⟨p0, p1, p2, p3⟩ := (BY8.out.below hx3 BY8.out.lt).four
              go_wp2_with fail
              refine (flat_m (Y8.out.below hx3) HTY.out).mono ?_
              rintro e v4 ⟨rfl, hv4⟩
              rw [HFY.out]
              have hx4 : Below w8.heap.size w8 v4 := hx3.trans (hv4.mono hx3.size)
              clear p0 p1 p2 p3
              obtain ⟨wc2, hwc2⟩ : ∃ u, v4.drew = u := ⟨_, rfl⟩
              have hdc : Below v4.heap.size v4 wc2 := hwc2 ▸ (Below.refl _ v4).drew
              have hb9 : Below w8.heap.size w8 wc2 := hx4.trans (hdc.mono hx4.size)
              have hwB : Below w.heap.size w wc2 := hw8.trans (hb9.mono hw8.size)
              obtain ⟨p0, p1, p2, p3⟩ := (BA8.out.below hx4 BA8.out.lt).four
              obtain ⟨q0, q1, q2, q3⟩ := (BB8.out.below hx4 BB8.out.lt).four
              obtain ⟨r0, r1, r2, r3⟩ := (BX8.out.below hx4 BX8.out.lt).four
              obtain ⟨t0, t1, t2, t3⟩ := (BY8.out.below hx4 BY8.out.lt).four
              have A9 := hide (A8.out.below hb9)
              have B9 := hide (B8.out.below hb9)
              have X9 := hide (X8.out.below hb9)
              have Y9 := hide (Y8.out.below hb9)
              have hS : ∀ wn, Below wc2.heap.size wc2 wn → (fun w' => w'.cell? ⟨w1.heap.size, 0, none⟩ = some (.int .i64 k1) ∧ w'.cell? ⟨w1.heap.size, 1, none⟩ = some (.string s1) ∧ w'.cell? ⟨w1.heap.size, 2, none⟩ = some (.int .i64 n1) ∧ w'.cell? ⟨w1.heap.size, 3, none⟩ = some (.slice a1 m1 c1) ∧ w'.cell? ⟨w3.heap.size, 0, none⟩ = some (.int .i64 k2) ∧ w'.cell? ⟨w3.heap.size, 1, none⟩ = some (.string s2) ∧ w'.cell? ⟨w3.heap.size, 2, none⟩ = some (.int .i64 n2) ∧ w'.cell? ⟨w3.heap.size, 3, none⟩ = some (.slice a2 m2 c2) ∧ w'.cell? ⟨g11, 0, none⟩ = some (.int .i64 kx) ∧ w'.cell? ⟨g11, 1, none⟩ = some (.string sx) ∧ w'.cell? ⟨g11, 2, none⟩ = some (.int .i64 nx) ∧ w'.cell? ⟨g11, 3, none⟩ = some (.slice ax mx cx) ∧ w'.cell? ⟨g12, 0, none⟩ = some (.int .i64 ky) ∧ w'.cell? ⟨g12, 1, none⟩ = some (.string sy) ∧ w'.cell? ⟨g12, 2, none⟩ = some (.int .i64 ny) ∧ w'.cell? ⟨g12, 3, none⟩ = some (.slice ay my cy)) wn := fun wn h => by
                have h6 : Below w8.heap.size w8 wn := hb9.trans (h.mono hb9.size)
                obtain ⟨e0, e1, e2, e3⟩ := (BA8.out.below h6 BA8.out.lt).four
                obtain ⟨f0, f1, f2, f3⟩ := (BB8.out.below h6 BB8.out.lt).four
                obtain ⟨i0, i1, i2, i3⟩ := (BX8.out.below h6 BX8.out.lt).four
                obtain ⟨j0, j1, j2, j3⟩ := (BY8.out.below h6 BY8.out.lt).four
                exact ⟨e0, e1, e2, e3, f0, f1, f2, f3, i0, i1, i2, i3, j0, j1, j2, j3⟩
              have HS := hide hS
              clear hS hb9 hdc hx1 hx2 hx3
              go_wp2_with fail
              refine wp_region_held_drew (S := fun w' => w'.cell? ⟨w1.heap.size, 0, none⟩ = some (.int .i64 k1) ∧ w'.cell? ⟨w1.heap.size, 1, none⟩ = some (.string s1) ∧ w'.cell? ⟨w1.heap.size, 2, none⟩ = some (.int .i64 n1) ∧ w'.cell? ⟨w1.heap.size, 3, none⟩ = some (.slice a1 m1 c1) ∧ w'.cell? ⟨w3.heap.size, 0, none⟩ = some (.int .i64 k2) ∧ w'.cell? ⟨w3.heap.size, 1, none⟩ = some (.string s2) ∧ w'.cell? ⟨w3.heap.size, 2, none⟩ = some (.int .i64 n2) ∧ w'.cell? ⟨w3.heap.size, 3, none⟩ = some (.slice a2 m2 c2) ∧ w'.cell? ⟨g11, 0, none⟩ = some (.int .i64 kx) ∧ w'.cell? ⟨g11, 1, none⟩ = some (.string sx) ∧ w'.cell? ⟨g11, 2, none⟩ = some (.int .i64 nx) ∧ w'.cell? ⟨g11, 3, none⟩ = some (.slice ax mx cx) ∧ w'.cell? ⟨g12, 0, none⟩ = some (.int .i64 ky) ∧ w'.cell? ⟨g12, 1, none⟩ = some (.string sy) ∧ w'.cell? ⟨g12, 2, none⟩ = some (.int .i64 ny) ∧ w'.cell? ⟨g12, 3, none⟩ = some (.slice ay my cy)) (by kernel_rfl) ?_ (fun hHeld => ?_)
              · exact ⟨p0, p1, p2, p3, q0, q1, q2, q3, r0, r1, r2, r3, t0, t1, t2, t3⟩
              rw [hwc2] at hHeld ⊢
              refine wpAnyH_ready (rs := [0]) (by kernel_rfl) (by simp) ?_
              refine AllReadyH.cons rfl (fun K hK => ?_) AllReadyH.nil
              go_simp
              refine (known_any wc2).mono ?_
              rintro e y1 ⟨rfl, hy1⟩
              have hz1 : Below wc2.heap.size wc2 y1 := (Below.refl wc2.heap.size wc2).trans (hy1.mono (Below.refl wc2.heap.size wc2).size)
              go_simp
              refine hK.out _ _ ?_ (fun hHeld => ?_)
              · exact HS.out _ hz1
              clear hK K
              refine wpAnyH_take (i := 1) (v := ?_) rfl (by kernel_rfl) (by kernel_rfl) (by kernel_rfl) (fun _ _ _ h => h) (Or.inl ⟨by rfl, ?_⟩) (by assumption) ?_
              rotate_left
              · intro w hSw; (try dsimp only at hSw); (try go_split_ands); go_simp
                all_goals with_reducible rfl
              try simp only [Act.put, List.getElem_toArray, List.getElem_cons_zero, List.getElem_cons_succ, List.setIfInBounds_toArray, List.set_cons_zero, List.set_cons_succ]
              refine wpAnyH_take (i := 2) (v := ?_) rfl (by kernel_rfl) (by kernel_rfl) (by kernel_rfl) (fun _ _ _ h => h) (Or.inl ⟨by rfl, ?_⟩) (by assumption) ?_
              rotate_left
              · intro w hSw; (try dsimp only at hSw); (try go_split_ands); go_simp
                all_goals with_reducible rfl
              try simp only [Act.put, List.getElem_toArray, List.getElem_cons_zero, List.getElem_cons_succ, List.setIfInBounds_toArray, List.set_cons_zero, List.set_cons_succ]
              refine wpAnyH_take (i := 4) (v := ?_) rfl (by kernel_rfl) (by kernel_rfl) (by kernel_rfl) (fun _ _ _ h => h) (Or.inl ⟨by rfl, ?_⟩) (by assumption) ?_
              rotate_left
              · intro w hSw; (try dsimp only at hSw); (try go_split_ands); go_simp
                all_goals with_reducible rfl
              try simp only [Act.put, List.getElem_toArray, List.getElem_cons_zero, List.getElem_cons_succ, List.setIfInBounds_toArray, List.set_cons_zero, List.set_cons_succ]
              refine wpAnyH_take (i := 6) (v := ?_) rfl (by kernel_rfl) (by kernel_rfl) (by kernel_rfl) (fun _ _ _ h => h) (Or.inl ⟨by rfl, ?_⟩) (by assumption) ?_
              rotate_left
              · intro w hSw; (try dsimp only at hSw); (try go_split_ands); go_simp
                all_goals with_reducible rfl
              try simp only [Act.put, List.getElem_toArray, List.getElem_cons_zero, List.getElem_cons_succ, List.setIfInBounds_toArray, List.set_cons_zero, List.set_cons_succ]
              refine wpAnyH_ready (rs := [3]) (by kernel_rfl) (by simp) ?_
              refine AllReadyH.cons rfl (fun K hK => ?_) AllReadyH.nil
              go_simp
              refine (words_m (X9.out.below hz1) HTX.out).mono ?_
              rintro e y2 ⟨rfl, hy2⟩
              rw [HWX.out]
              have hz2 : Below wc2.heap.size wc2 y2 := hz1.trans (hy2.mono hz1.size)
              go_simp
              refine hK.out _ _ ?_ (fun hHeld => ?_)
              · exact HS.out _ hz2
              clear hK K
              refine wpAnyH_ready (rs := [5]) (by kernel_rfl) (by simp) ?_
              refine AllReadyH.cons rfl (fun K hK => ?_) AllReadyH.nil
              go_simp
              refine (words_m (A9.out.below hz2) (by omega)).mono ?_
              rintro e y3 ⟨rfl, hy3⟩
              rw [HWA.out]
              have hz3 : Below wc2.heap.size wc2 y3 := hz2.trans (hy3.mono hz2.size)
              go_simp
              refine hK.out _ _ ?_ (fun hHeld => ?_)
              · exact HS.out _ hz3
              clear hK K
              refine wpAnyH_ready (rs := [7]) (by kernel_rfl) (by simp) ?_
              refine AllReadyH.cons rfl (fun K hK => ?_) AllReadyH.nil
              go_simp
              refine (words_m (B9.out.below hz3) (by omega)).mono ?_
              rintro e y4 ⟨rfl, hy4⟩
              rw [HWB.out]
              have hz4 : Below wc2.heap.size wc2 y4 := hz3.trans (hy4.mono hz3.size)
              go_simp
              refine hK.out _ _ ?_ (fun hHeld => ?_)
              · exact HS.out _ hz4
              clear hK K
              have hab : ¬ 9223372036854775807 < TA.size + TB.size := by omega
              refine wpAnyH_take (i := 8) (v := ?_) rfl (by kernel_rfl) (by kernel_rfl) (by kernel_rfl) (fun _ _ _ h => h) (Or.inl ⟨by rfl, ?_⟩) (by assumption) ?_
              rotate_left
              · intro w hSw; (try dsimp only at hSw); (try go_split_ands); go_simp
                all_goals with_reducible rfl
              try simp only [Act.put, List.getElem_toArray, List.getElem_cons_zero, List.getElem_cons_succ, List.setIfInBounds_toArray, List.set_cons_zero, List.set_cons_succ]
              clear hab
              refine wpAnyH_take (i := 9) (v := ?_) rfl (by kernel_rfl) (by kernel_rfl) (by kernel_rfl) (fun _ _ _ h => h) (Or.inl ⟨by rfl, ?_⟩) (by assumption) ?_
              rotate_left
              · intro w hSw; (try dsimp only at hSw); (try go_split_ands); go_simp
                all_goals with_reducible rfl
              try simp only [Act.put, List.getElem_toArray, List.getElem_cons_zero, List.getElem_cons_succ, List.setIfInBounds_toArray, List.set_cons_zero, List.set_cons_succ]
              refine wpAnyH_take (i := 10) (v := ?_) rfl (by kernel_rfl) (by kernel_rfl) (by kernel_rfl) (fun _ _ _ h => h) (Or.inl ⟨by rfl, ?_⟩) (by assumption) ?_
              rotate_left
              · intro w hSw; (try dsimp only at hSw); (try go_split_ands); go_simp
                all_goals with_reducible rfl
              try simp only [Act.put, List.getElem_toArray, List.getElem_cons_zero, List.getElem_cons_succ, List.setIfInBounds_toArray, List.set_cons_zero, List.set_cons_succ]
              refine wpAnyH_take (i := 11) (v := ?_) rfl (by kernel_rfl) (by kernel_rfl) (by kernel_rfl) (fun _ _ _ h => h) (Or.inl ⟨by rfl, ?_⟩) (by assumption) ?_
              rotate_left
              · intro w hSw; (try dsimp only at hSw); (try go_split_ands); go_simp
                all_goals with_reducible rfl
              try simp only [Act.put, List.getElem_toArray, List.getElem_cons_zero, List.getElem_cons_succ, List.setIfInBounds_toArray, List.set_cons_zero, List.set_cons_succ]
              refine wpAnyH_take (i := 12) (v := ?_) rfl (by kernel_rfl) (by kernel_rfl) (by kernel_rfl) (fun _ _ _ h => h) (Or.inl ⟨by rfl, ?_⟩) (by assumption) ?_
              rotate_left
              · intro w hSw; (try dsimp only at hSw); (try go_split_ands); go_simp
                all_goals with_reducible rfl
              try simp only [Act.put, List.getElem_toArray, List.getElem_cons_zero, List.getElem_cons_succ, List.setIfInBounds_toArray, List.set_cons_zero, List.set_cons_succ]
              refine wpAnyH_take (i := 14) (v := ?_) rfl (by kernel_rfl) (by kernel_rfl) (by kernel_rfl) (fun _ _ _ h => h) (Or.inl ⟨by rfl, ?_⟩) (by assumption) ?_
              rotate_left
              · intro w hSw; (try dsimp only at hSw); (try go_split_ands); go_simp
                all_goals with_reducible rfl
              try simp only [Act.put, List.getElem_toArray, List.getElem_cons_zero, List.getElem_cons_succ, List.setIfInBounds_toArray, List.set_cons_zero, List.set_cons_succ]
              refine wpAnyH_ready (rs := [13]) (by kernel_rfl) (by simp) ?_
              refine AllReadyH.cons rfl (fun K hK => ?_) AllReadyH.nil
              go_simp
              refine (words_m (Y9.out.below hz4) HTY.out).mono ?_
              rintro e y5 ⟨rfl, hy5⟩
              rw [HWY.out]
              have hz5 : Below wc2.heap.size wc2 y5 := hz4.trans (hy5.mono hz4.size)
              go_simp
              refine hK.out _ _ ?_ (fun hHeld => ?_)
              · exact HS.out _ hz5
              clear hK K
              refine wpAnyH_ready (rs := [15]) (by kernel_rfl) (by simp) ?_
              refine AllReadyH.cons rfl (fun K hK => ?_) AllReadyH.nil
              go_simp
              refine (words_m (X9.out.below hz5) HTX.out).mono ?_
              rintro e y6 ⟨rfl, hy6⟩
              rw [HWX.out]
              have hz6 : Below wc2.heap.size wc2 y6 := hz5.trans (hy6.mono hz5.size)
              go_simp
              refine hK.out _ _ ?_ (fun hHeld => ?_)
              · exact HS.out _ hz6
              clear hK K
              refine wpAnyH_take (i := 16) (v := ?_) rfl (by kernel_rfl) (by kernel_rfl) (by kernel_rfl) (fun _ _ _ h => h) (Or.inl ⟨by rfl, ?_⟩) (by assumption) ?_
              rotate_left
              · intro w hSw; (try dsimp only at hSw); (try go_split_ands); go_simp
                all_goals with_reducible rfl
              try simp only [Act.put, List.getElem_toArray, List.getElem_cons_zero, List.getElem_cons_succ, List.setIfInBounds_toArray, List.set_cons_zero, List.set_cons_succ]
              refine wpAnyH_take (i := 17) (v := ?_) rfl (by kernel_rfl) (by kernel_rfl) (by kernel_rfl) (fun _ _ _ h => h) (Or.inl ⟨by rfl, ?_⟩) (by assumption) ?_
              rotate_left
              · intro w hSw; (try dsimp only at hSw); (try go_split_ands); go_simp
                all_goals with_reducible rfl
              try simp only [Act.put, List.getElem_toArray, List.getElem_cons_zero, List.getElem_cons_succ, List.setIfInBounds_toArray, List.set_cons_zero, List.set_cons_succ]
              refine wpAnyH_take (i := 18) (v := ?_) rfl (by kernel_rfl) (by kernel_rfl) (by kernel_rfl) (fun _ _ _ h => h) (Or.inl ⟨by rfl, ?_⟩) (by assumption) ?_
              rotate_left
              · intro w hSw; (try dsimp only at hSw); (try go_split_ands); go_simp
                all_goals with_reducible rfl
              try simp only [Act.put, List.getElem_toArray, List.getElem_cons_zero, List.getElem_cons_succ, List.setIfInBounds_toArray, List.set_cons_zero, List.set_cons_succ]
              refine wpAnyH_take (i := 19) (v := ?_) rfl (by kernel_rfl) (by kernel_rfl) (by kernel_rfl) (fun _ _ _ h => h) (Or.inl ⟨by rfl, ?_⟩) (by assumption) ?_
              rotate_left
              · intro w hSw; (try dsimp only at hSw); (try go_split_ands); go_simp
                all_goals with_reducible rfl
              try simp only [Act.put, List.getElem_toArray, List.getElem_cons_zero, List.getElem_cons_succ, List.setIfInBounds_toArray, List.set_cons_zero, List.set_cons_succ]
              refine wpAnyH_take (i := 20) (v := ?_) rfl (by kernel_rfl) (by kernel_rfl) (by kernel_rfl) (fun _ _ _ h => h) (Or.inl ⟨by rfl, ?_⟩) (by assumption) ?_
              rotate_left
              · intro w hSw; (try dsimp only at hSw); (try go_split_ands); go_simp
                all_goals with_reducible rfl
              try simp only [Act.put, List.getElem_toArray, List.getElem_cons_zero, List.getElem_cons_succ, List.setIfInBounds_toArray, List.set_cons_zero, List.set_cons_succ]
              refine wpAnyH_take (i := 21) (v := ?_) rfl (by kernel_rfl) (by kernel_rfl) (by kernel_rfl) (fun _ _ _ h => h) (Or.inl ⟨by rfl, ?_⟩) (by assumption) ?_
              rotate_left
              · intro w hSw; (try dsimp only at hSw); (try go_split_ands); go_simp
                all_goals with_reducible rfl
              try simp only [Act.put, List.getElem_toArray, List.getElem_cons_zero, List.getElem_cons_succ, List.setIfInBounds_toArray, List.set_cons_zero, List.set_cons_succ]
              refine wpAnyH_take (i := 22) (v := undef) rfl (by kernel_rfl) (by kernel_rfl) (by kernel_rfl) (fun _ _ _ h => h) (Or.inr ⟨by rfl, rfl⟩) (by assumption) ?_
              try simp only [Act.put, List.getElem_toArray, List.getElem_cons_zero, List.getElem_cons_succ, List.setIfInBounds_toArray, List.set_cons_zero, List.set_cons_succ]
              refine wpAnyH_take (i := 23) (v := ?_) rfl (by kernel_rfl) (by kernel_rfl) (by kernel_rfl) (fun _ _ _ h => h) (Or.inl ⟨by rfl, ?_⟩) (by assumption) ?_
              rotate_left
              · intro w hSw; (try dsimp only at hSw); (try go_split_ands); go_simp
                all_goals with_reducible rfl
              try simp only [Act.put, List.getElem_toArray, List.getElem_cons_zero, List.getElem_cons_succ, List.setIfInBounds_toArray, List.set_cons_zero, List.set_cons_succ]
              refine wpAnyH_take (i := 24) (v := ?_) rfl (by kernel_rfl) (by kernel_rfl) (by kernel_rfl) (fun _ _ _ h => h) (Or.inl ⟨by rfl, ?_⟩) (by assumption) ?_
              rotate_left
              · intro w hSw; (try dsimp only at hSw); (try go_split_ands); go_simp
                all_goals with_reducible rfl
              try simp only [Act.put, List.getElem_toArray, List.getElem_cons_zero, List.getElem_cons_succ, List.setIfInBounds_toArray, List.set_cons_zero, List.set_cons_succ]
              refine wpAnyH_take (i := 25) (v := ?_) rfl (by kernel_rfl) (by kernel_rfl) (by kernel_rfl) (fun _ _ _ h => h) (Or.inl ⟨by rfl, ?_⟩) (by assumption) ?_
              rotate_left
              · intro w hSw; (try dsimp only at hSw); (try go_split_ands); go_simp
                all_goals with_reducible rfl
              try simp only [Act.put, List.getElem_toArray, List.getElem_cons_zero, List.getElem_cons_succ, List.setIfInBounds_toArray, List.set_cons_zero, List.set_cons_succ]
              refine wpAnyH_take (i := 26) (v := ?_) rfl (by kernel_rfl) (by kernel_rfl) (by kernel_rfl) (fun _ _ _ h => h) (Or.inl ⟨by rfl, ?_⟩) (by assumption) ?_
              rotate_left
              · intro w hSw; (try dsimp only at hSw); (try go_split_ands); go_simp
                all_goals with_reducible rfl
              try simp only [Act.put, List.getElem_toArray, List.getElem_cons_zero, List.getElem_cons_succ, List.setIfInBounds_toArray, List.set_cons_zero, List.set_cons_succ]
              refine wpAnyH_take (i := 27) (v := ?_) rfl (by kernel_rfl) (by kernel_rfl) (by kernel_rfl) (fun _ _ _ h => h) (Or.inl ⟨by rfl, ?_⟩) (by assumption) ?_
              rotate_left
              · intro w hSw; (try dsimp only at hSw); (try go_split_ands); go_simp
                all_goals with_reducible rfl
              try simp only [Act.put, List.getElem_toArray, List.getElem_cons_zero, List.getElem_cons_succ, List.setIfInBounds_toArray, List.set_cons_zero, List.set_cons_succ]
              refine wpAnyH_take (i := 28) (v := ?_) rfl (by kernel_rfl) (by kernel_rfl) (by kernel_rfl) (fun _ _ _ h => h) (Or.inl ⟨by rfl, ?_⟩) (by assumption) ?_
              rotate_left
              · intro w hSw; (try dsimp only at hSw); (try go_split_ands); go_simp
                all_goals with_reducible rfl
              try simp only [Act.put, List.getElem_toArray, List.getElem_cons_zero, List.getElem_cons_succ, List.setIfInBounds_toArray, List.set_cons_zero, List.set_cons_succ]
              refine wpAnyH_take (i := 29) (v := ?_) rfl (by kernel_rfl) (by kernel_rfl) (by kernel_rfl) (fun _ _ _ h => h) (Or.inl ⟨by rfl, ?_⟩) (by assumption) ?_
              rotate_left
              · intro w hSw; (try dsimp only at hSw); (try go_split_ands); go_simp
                all_goals with_reducible rfl
              try simp only [Act.put, List.getElem_toArray, List.getElem_cons_zero, List.getElem_cons_succ, List.setIfInBounds_toArray, List.set_cons_zero, List.set_cons_succ]
              refine wpAnyH_take (i := 30) (v := ?_) rfl (by kernel_rfl) (by kernel_rfl) (by kernel_rfl) (fun _ _ _ h => h) (Or.inl ⟨by rfl, ?_⟩) (by assumption) ?_
              rotate_left
              · intro w hSw; (try dsimp only at hSw); (try go_split_ands); go_simp
                all_goals with_reducible rfl
              try simp only [Act.put, List.getElem_toArray, List.getElem_cons_zero, List.getElem_cons_succ, List.setIfInBounds_toArray, List.set_cons_zero, List.set_cons_succ]
              refine wpAnyH_take (i := 31) (v := ?_) rfl (by kernel_rfl) (by kernel_rfl) (by kernel_rfl) (fun _ _ _ h => h) (Or.inl ⟨by rfl, ?_⟩) (by assumption) ?_
              rotate_left
              · intro w hSw; (try dsimp only at hSw); (try go_split_ands); go_simp
                all_goals with_reducible rfl
              try simp only [Act.put, List.getElem_toArray, List.getElem_cons_zero, List.getElem_cons_succ, List.setIfInBounds_toArray, List.set_cons_zero, List.set_cons_succ]
              refine wpAnyH_take (i := 32) (v := ?_) rfl (by kernel_rfl) (by kernel_rfl) (by kernel_rfl) (fun _ _ _ h => h) (Or.inl ⟨by rfl, ?_⟩) (by assumption) ?_
              rotate_left
              · intro w hSw; (try dsimp only at hSw); (try go_split_ands); go_simp
                all_goals with_reducible rfl
              try simp only [Act.put, List.getElem_toArray, List.getElem_cons_zero, List.getElem_cons_succ, List.setIfInBounds_toArray, List.set_cons_zero, List.set_cons_succ]
              refine wpAnyH_take (i := 33) (v := ?_) rfl (by kernel_rfl) (by kernel_rfl) (by kernel_rfl) (fun _ _ _ h => h) (Or.inl ⟨by rfl, ?_⟩) (by assumption) ?_
              rotate_left
              · intro w hSw; (try dsimp only at hSw); (try go_split_ands); go_simp
                all_goals with_reducible rfl
              try simp only [Act.put, List.getElem_toArray, List.getElem_cons_zero, List.getElem_cons_succ, List.setIfInBounds_toArray, List.set_cons_zero, List.set_cons_succ]
              refine wpAnyH_take (i := 34) (v := ?_) rfl (by kernel_rfl) (by kernel_rfl) (by kernel_rfl) (fun _ _ _ h => h) (Or.inl ⟨by rfl, ?_⟩) (by assumption) ?_
              rotate_left
              · intro w hSw; (try dsimp only at hSw); (try go_split_ands); go_simp
                all_goals with_reducible rfl
              try simp only [Act.put, List.getElem_toArray, List.getElem_cons_zero, List.getElem_cons_succ, List.setIfInBounds_toArray, List.set_cons_zero, List.set_cons_succ]
              refine wpAnyH_take (i := 35) (v := undef) rfl (by kernel_rfl) (by kernel_rfl) (by kernel_rfl) (fun _ _ _ h => h) (Or.inr ⟨by rfl, rfl⟩) (by assumption) ?_
              try simp only [Act.put, List.getElem_toArray, List.getElem_cons_zero, List.getElem_cons_succ, List.setIfInBounds_toArray, List.set_cons_zero, List.set_cons_succ]
              refine wpAnyH_take (i := 36) (v := undef) rfl (by kernel_rfl) (by kernel_rfl) (by kernel_rfl) (fun _ _ _ h => h) (Or.inr ⟨by rfl, rfl⟩) (by assumption) ?_
              try simp only [Act.put, List.getElem_toArray, List.getElem_cons_zero, List.getElem_cons_succ, List.setIfInBounds_toArray, List.set_cons_zero, List.set_cons_succ]
              refine wpAnyH_take (i := 37) (v := undef) rfl (by kernel_rfl) (by kernel_rfl) (by kernel_rfl) (fun _ _ _ h => h) (Or.inr ⟨by rfl, rfl⟩) (by assumption) ?_
              try simp only [Act.put, List.getElem_toArray, List.getElem_cons_zero, List.getElem_cons_succ, List.setIfInBounds_toArray, List.set_cons_zero, List.set_cons_succ]
              refine wpAnyH_take (i := 38) (v := undef) rfl (by kernel_rfl) (by kernel_rfl) (by kernel_rfl) (fun _ _ _ h => h) (Or.inr ⟨by rfl, rfl⟩) (by assumption) ?_
              try simp only [Act.put, List.getElem_toArray, List.getElem_cons_zero, List.getElem_cons_succ, List.setIfInBounds_toArray, List.set_cons_zero, List.set_cons_succ]
              refine wpAnyH_take (i := 39) (v := undef) rfl (by kernel_rfl) (by kernel_rfl) (by kernel_rfl) (fun _ _ _ h => h) (Or.inr ⟨by rfl, rfl⟩) (by assumption) ?_
              try simp only [Act.put, List.getElem_toArray, List.getElem_cons_zero, List.getElem_cons_succ, List.setIfInBounds_toArray, List.set_cons_zero, List.set_cons_succ]
              refine wpAnyH_take (i := 40) (v := undef) rfl (by kernel_rfl) (by kernel_rfl) (by kernel_rfl) (fun _ _ _ h => h) (Or.inr ⟨by rfl, rfl⟩) (by assumption) ?_
              try simp only [Act.put, List.getElem_toArray, List.getElem_cons_zero, List.getElem_cons_succ, List.setIfInBounds_toArray, List.set_cons_zero, List.set_cons_succ]
              refine wpAnyH_take (i := 41) (v := undef) rfl (by kernel_rfl) (by kernel_rfl) (by kernel_rfl) (fun _ _ _ h => h) (Or.inr ⟨by rfl, rfl⟩) (by assumption) ?_
              try simp only [Act.put, List.getElem_toArray, List.getElem_cons_zero, List.getElem_cons_succ, List.setIfInBounds_toArray, List.set_cons_zero, List.set_cons_succ]
              refine wpAnyH_take (i := 42) (v := undef) rfl (by kernel_rfl) (by kernel_rfl) (by kernel_rfl) (fun _ _ _ h => h) (Or.inr ⟨by rfl, rfl⟩) (by assumption) ?_
              try simp only [Act.put, List.getElem_toArray, List.getElem_cons_zero, List.getElem_cons_succ, List.setIfInBounds_toArray, List.set_cons_zero, List.set_cons_succ]
              refine wpAnyH_take (i := 43) (v := undef) rfl (by kernel_rfl) (by kernel_rfl) (by kernel_rfl) (fun _ _ _ h => h) (Or.inr ⟨by rfl, rfl⟩) (by assumption) ?_
              try simp only [Act.put, List.getElem_toArray, List.getElem_cons_zero, List.getElem_cons_succ, List.setIfInBounds_toArray, List.set_cons_zero, List.set_cons_succ]
              refine wpAnyH_take (i := 44) (v := undef) rfl (by kernel_rfl) (by kernel_rfl) (by kernel_rfl) (fun _ _ _ h => h) (Or.inr ⟨by rfl, rfl⟩) (by assumption) ?_
              try simp only [Act.put, List.getElem_toArray, List.getElem_cons_zero, List.getElem_cons_succ, List.setIfInBounds_toArray, List.set_cons_zero, List.set_cons_succ]
              refine wpAnyH_take (i := 45) (v := ?_) rfl (by kernel_rfl) (by kernel_rfl) (by kernel_rfl) (fun _ _ _ h => h) (Or.inl ⟨by rfl, ?_⟩) (by assumption) ?_
              rotate_left
              · intro w hSw; (try dsimp only at hSw); (try go_split_ands); go_simp
                all_goals with_reducible rfl
              try simp only [Act.put, List.getElem_toArray, List.getElem_cons_zero, List.getElem_cons_succ, List.setIfInBounds_toArray, List.set_cons_zero, List.set_cons_succ]
              refine wpAnyH_take (i := 46) (v := ?_) rfl (by kernel_rfl) (by kernel_rfl) (by kernel_rfl) (fun _ _ _ h => h) (Or.inl ⟨by rfl, ?_⟩) (by assumption) ?_
              rotate_left
              · intro w hSw; (try dsimp only at hSw); (try go_split_ands); go_simp
                all_goals with_reducible rfl
              try simp only [Act.put, List.getElem_toArray, List.getElem_cons_zero, List.getElem_cons_succ, List.setIfInBounds_toArray, List.set_cons_zero, List.set_cons_succ]
              refine wpAnyH_take (i := 47) (v := ?_) rfl (by kernel_rfl) (by kernel_rfl) (by kernel_rfl) (fun _ _ _ h => h) (Or.inl ⟨by rfl, ?_⟩) (by assumption) ?_
              rotate_left
              · intro w hSw; (try dsimp only at hSw); (try go_split_ands); go_simp
                all_goals with_reducible rfl
              try simp only [Act.put, List.getElem_toArray, List.getElem_cons_zero, List.getElem_cons_succ, List.setIfInBounds_toArray, List.set_cons_zero, List.set_cons_succ]
              refine wpAnyH_done (by kernel_rfl) ?_ _
              go_wp2_with fail
              go_ret
              exact ⟨rfl, hwB.trans (hz6.mono hwB.size)⟩
          | false =>
            cases eb : hardL (leavesD db) with
            | true =>
              obtain ⟨SA, hSA, hzA⟩ : ∃ S : ByteArray, flatP (leavesD da) = .tuple #[.string S, .bool true] ∧ S.size ≤ 500 := ⟨_, by rw [flatP, ea]; rfl, by rw [if_neg (by decide), size_arr]; have := line_tot da; omega⟩
              obtain ⟨SB, hSB, hzB⟩ : ∃ S : ByteArray, flatP (leavesD db) = .tuple #[.string S, .bool false] ∧ S.size ≤ 500 := ⟨_, by rw [flatP, eb]; rfl, by rw [if_pos rfl]; decide⟩
              obtain ⟨SX, hFX⟩ : ∃ S : ByteArray, flatP (leavesD (.mk 7 ByteArray.empty 0 (.cons da (.cons (fitD db) .nil)))) = .tuple #[.string S, .bool false] := ⟨_, by rw [leaves_2, leaves_fit, flatP, hardL_append2, ea, eb]; rfl⟩
              obtain ⟨SY, hFY⟩ : ∃ S : ByteArray, flatP (leavesD (.mk 7 ByteArray.empty 0 (.cons (fitD (inD n da)) (.cons db .nil)))) = .tuple #[.string S, .bool false] := ⟨_, by rw [leaves_2, leaves_fit, leaves_in, flatP, hardL_append2, ea, eb]; rfl⟩
              have HFA := hide hSA
              have HFB := hide hSB
              have HFX := hide hFX
              have HFY := hide hFY
              clear hSA hSB hFX hFY ea eb
              obtain ⟨p0, p1, p2, p3⟩ := BA8.out.four
              go_wp2_with fail
              refine (flat_m A8.out (by omega)).mono ?_
              rintro e v1 ⟨rfl, hv1⟩
              rw [HFA.out]
              have hx1 : Below w8.heap.size w8 v1 := (Below.refl w8.heap.size w8).trans (hv1.mono (Below.refl w8.heap.size w8).size)
              clear p0 p1 p2 p3
              obtain ⟨p0, p1, p2, p3⟩ := (BB8.out.below hx1 BB8.out.lt).four
              go_wp2_with fail
              refine (flat_m (B8.out.below hx1) (by omega)).mono ?_
              rintro e v2 ⟨rfl, hv2⟩
              rw [HFB.out]
              have hx2 : Below w8.heap.size w8 v2 := hx1.trans (hv2.mono hx1.size)
              clear p0 p1 p2 p3
              obtain ⟨p0, p1, p2, p3⟩ := (BX8.out.below hx2 BX8.out.lt).four
              go_wp2_with fail
              refine (flat_m (X8.out.below hx2) HTX.out).mono ?_
              rintro e v3 ⟨rfl, hv3⟩
              rw [HFX.out]
              have hx3 : Below w8.heap.size w8 v3 := hx2.trans (hv3.mono hx2.size)
              clear p0 p1 p2 p3
              obtain ⟨p0, p1, p2, p3⟩ := (BY8.out.below hx3 BY8.out.lt).four
              go_wp2_with fail
              refine (flat_m (Y8.out.below hx3) HTY.out).mono ?_
              rintro e v4 ⟨rfl, hv4⟩
              rw [HFY.out]
              have hx4 : Below w8.heap.size w8 v4 := hx3.trans (hv4.mono hx3.size)
              clear p0 p1 p2 p3
              obtain ⟨wc2, hwc2⟩ : ∃ u, v4.drew = u := ⟨_, rfl⟩
              have hdc : Below v4.heap.size v4 wc2 := hwc2 ▸ (Below.refl _ v4).drew
              have hb9 : Below w8.heap.size w8 wc2 := hx4.trans (hdc.mono hx4.size)
              have hwB : Below w.heap.size w wc2 := hw8.trans (hb9.mono hw8.size)
              obtain ⟨p0, p1, p2, p3⟩ := (BA8.out.below hx4 BA8.out.lt).four
              obtain ⟨q0, q1, q2, q3⟩ := (BB8.out.below hx4 BB8.out.lt).four
              obtain ⟨r0, r1, r2, r3⟩ := (BX8.out.below hx4 BX8.out.lt).four
              obtain ⟨t0, t1, t2, t3⟩ := (BY8.out.below hx4 BY8.out.lt).four
              have A9 := hide (A8.out.below hb9)
              have B9 := hide (B8.out.below hb9)
              have X9 := hide (X8.out.below hb9)
              have Y9 := hide (Y8.out.below hb9)
              have hS : ∀ wn, Below wc2.heap.size wc2 wn → (fun w' => w'.cell? ⟨w1.heap.size, 0, none⟩ = some (.int .i64 k1) ∧ w'.cell? ⟨w1.heap.size, 1, none⟩ = some (.string s1) ∧ w'.cell? ⟨w1.heap.size, 2, none⟩ = some (.int .i64 n1) ∧ w'.cell? ⟨w1.heap.size, 3, none⟩ = some (.slice a1 m1 c1) ∧ w'.cell? ⟨w3.heap.size, 0, none⟩ = some (.int .i64 k2) ∧ w'.cell? ⟨w3.heap.size, 1, none⟩ = some (.string s2) ∧ w'.cell? ⟨w3.heap.size, 2, none⟩ = some (.int .i64 n2) ∧ w'.cell? ⟨w3.heap.size, 3, none⟩ = some (.slice a2 m2 c2) ∧ w'.cell? ⟨g11, 0, none⟩ = some (.int .i64 kx) ∧ w'.cell? ⟨g11, 1, none⟩ = some (.string sx) ∧ w'.cell? ⟨g11, 2, none⟩ = some (.int .i64 nx) ∧ w'.cell? ⟨g11, 3, none⟩ = some (.slice ax mx cx) ∧ w'.cell? ⟨g12, 0, none⟩ = some (.int .i64 ky) ∧ w'.cell? ⟨g12, 1, none⟩ = some (.string sy) ∧ w'.cell? ⟨g12, 2, none⟩ = some (.int .i64 ny) ∧ w'.cell? ⟨g12, 3, none⟩ = some (.slice ay my cy)) wn := fun wn h => by
                have h6 : Below w8.heap.size w8 wn := hb9.trans (h.mono hb9.size)
                obtain ⟨e0, e1, e2, e3⟩ := (BA8.out.below h6 BA8.out.lt).four
                obtain ⟨f0, f1, f2, f3⟩ := (BB8.out.below h6 BB8.out.lt).four
                obtain ⟨i0, i1, i2, i3⟩ := (BX8.out.below h6 BX8.out.lt).four
                obtain ⟨j0, j1, j2, j3⟩ := (BY8.out.below h6 BY8.out.lt).four
                exact ⟨e0, e1, e2, e3, f0, f1, f2, f3, i0, i1, i2, i3, j0, j1, j2, j3⟩
              have HS := hide hS
              clear hS hb9 hdc hx1 hx2 hx3
              go_wp2_with fail
              refine wp_region_held_drew (S := fun w' => w'.cell? ⟨w1.heap.size, 0, none⟩ = some (.int .i64 k1) ∧ w'.cell? ⟨w1.heap.size, 1, none⟩ = some (.string s1) ∧ w'.cell? ⟨w1.heap.size, 2, none⟩ = some (.int .i64 n1) ∧ w'.cell? ⟨w1.heap.size, 3, none⟩ = some (.slice a1 m1 c1) ∧ w'.cell? ⟨w3.heap.size, 0, none⟩ = some (.int .i64 k2) ∧ w'.cell? ⟨w3.heap.size, 1, none⟩ = some (.string s2) ∧ w'.cell? ⟨w3.heap.size, 2, none⟩ = some (.int .i64 n2) ∧ w'.cell? ⟨w3.heap.size, 3, none⟩ = some (.slice a2 m2 c2) ∧ w'.cell? ⟨g11, 0, none⟩ = some (.int .i64 kx) ∧ w'.cell? ⟨g11, 1, none⟩ = some (.string sx) ∧ w'.cell? ⟨g11, 2, none⟩ = some (.int .i64 nx) ∧ w'.cell? ⟨g11, 3, none⟩ = some (.slice ax mx cx) ∧ w'.cell? ⟨g12, 0, none⟩ = some (.int .i64 ky) ∧ w'.cell? ⟨g12, 1, none⟩ = some (.string sy) ∧ w'.cell? ⟨g12, 2, none⟩ = some (.int .i64 ny) ∧ w'.cell? ⟨g12, 3, none⟩ = some (.slice ay my cy)) (by kernel_rfl) ?_ (fun hHeld => ?_)
              · exact ⟨p0, p1, p2, p3, q0, q1, q2, q3, r0, r1, r2, r3, t0, t1, t2, t3⟩
              rw [hwc2] at hHeld ⊢
              refine wpAnyH_ready (rs := [0]) (by kernel_rfl) (by simp) ?_
              refine AllReadyH.cons rfl (fun K hK => ?_) AllReadyH.nil
              go_simp
              refine (known_any wc2).mono ?_
              rintro e y1 ⟨rfl, hy1⟩
              have hz1 : Below wc2.heap.size wc2 y1 := (Below.refl wc2.heap.size wc2).trans (hy1.mono (Below.refl wc2.heap.size wc2).size)
              go_simp
              refine hK.out _ _ ?_ (fun hHeld => ?_)
              · exact HS.out _ hz1
              clear hK K
              refine wpAnyH_take (i := 1) (v := ?_) rfl (by kernel_rfl) (by kernel_rfl) (by kernel_rfl) (fun _ _ _ h => h) (Or.inl ⟨by rfl, ?_⟩) (by assumption) ?_
              rotate_left
              · intro w hSw; (try dsimp only at hSw); (try go_split_ands); go_simp
                all_goals with_reducible rfl
              try simp only [Act.put, List.getElem_toArray, List.getElem_cons_zero, List.getElem_cons_succ, List.setIfInBounds_toArray, List.set_cons_zero, List.set_cons_succ]
              refine wpAnyH_take (i := 2) (v := ?_) rfl (by kernel_rfl) (by kernel_rfl) (by kernel_rfl) (fun _ _ _ h => h) (Or.inl ⟨by rfl, ?_⟩) (by assumption) ?_
              rotate_left
              · intro w hSw; (try dsimp only at hSw); (try go_split_ands); go_simp
                all_goals with_reducible rfl
              try simp only [Act.put, List.getElem_toArray, List.getElem_cons_zero, List.getElem_cons_succ, List.setIfInBounds_toArray, List.set_cons_zero, List.set_cons_succ]
              refine wpAnyH_take (i := 4) (v := ?_) rfl (by kernel_rfl) (by kernel_rfl) (by kernel_rfl) (fun _ _ _ h => h) (Or.inl ⟨by rfl, ?_⟩) (by assumption) ?_
              rotate_left
              · intro w hSw; (try dsimp only at hSw); (try go_split_ands); go_simp
                all_goals with_reducible rfl
              try simp only [Act.put, List.getElem_toArray, List.getElem_cons_zero, List.getElem_cons_succ, List.setIfInBounds_toArray, List.set_cons_zero, List.set_cons_succ]
              refine wpAnyH_take (i := 6) (v := ?_) rfl (by kernel_rfl) (by kernel_rfl) (by kernel_rfl) (fun _ _ _ h => h) (Or.inl ⟨by rfl, ?_⟩) (by assumption) ?_
              rotate_left
              · intro w hSw; (try dsimp only at hSw); (try go_split_ands); go_simp
                all_goals with_reducible rfl
              try simp only [Act.put, List.getElem_toArray, List.getElem_cons_zero, List.getElem_cons_succ, List.setIfInBounds_toArray, List.set_cons_zero, List.set_cons_succ]
              refine wpAnyH_ready (rs := [3]) (by kernel_rfl) (by simp) ?_
              refine AllReadyH.cons rfl (fun K hK => ?_) AllReadyH.nil
              go_simp
              refine (words_m (X9.out.below hz1) HTX.out).mono ?_
              rintro e y2 ⟨rfl, hy2⟩
              rw [HWX.out]
              have hz2 : Below wc2.heap.size wc2 y2 := hz1.trans (hy2.mono hz1.size)
              go_simp
              refine hK.out _ _ ?_ (fun hHeld => ?_)
              · exact HS.out _ hz2
              clear hK K
              refine wpAnyH_ready (rs := [5]) (by kernel_rfl) (by simp) ?_
              refine AllReadyH.cons rfl (fun K hK => ?_) AllReadyH.nil
              go_simp
              refine (words_m (A9.out.below hz2) (by omega)).mono ?_
              rintro e y3 ⟨rfl, hy3⟩
              rw [HWA.out]
              have hz3 : Below wc2.heap.size wc2 y3 := hz2.trans (hy3.mono hz2.size)
              go_simp
              refine hK.out _ _ ?_ (fun hHeld => ?_)
              · exact HS.out _ hz3
              clear hK K
              refine wpAnyH_ready (rs := [7]) (by kernel_rfl) (by simp) ?_
              refine AllReadyH.cons rfl (fun K hK => ?_) AllReadyH.nil
              go_simp
              refine (words_m (B9.out.below hz3) (by omega)).mono ?_
              rintro e y4 ⟨rfl, hy4⟩
              rw [HWB.out]
              have hz4 : Below wc2.heap.size wc2 y4 := hz3.trans (hy4.mono hz3.size)
              go_simp
              refine hK.out _ _ ?_ (fun hHeld => ?_)
              · exact HS.out _ hz4
              clear hK K
              have hab : ¬ 9223372036854775807 < TA.size + TB.size := by omega
              refine wpAnyH_take (i := 8) (v := ?_) rfl (by kernel_rfl) (by kernel_rfl) (by kernel_rfl) (fun _ _ _ h => h) (Or.inl ⟨by rfl, ?_⟩) (by assumption) ?_
              rotate_left
              · intro w hSw; (try dsimp only at hSw); (try go_split_ands); go_simp
                all_goals with_reducible rfl
              try simp only [Act.put, List.getElem_toArray, List.getElem_cons_zero, List.getElem_cons_succ, List.setIfInBounds_toArray, List.set_cons_zero, List.set_cons_succ]
              clear hab
              refine wpAnyH_take (i := 9) (v := ?_) rfl (by kernel_rfl) (by kernel_rfl) (by kernel_rfl) (fun _ _ _ h => h) (Or.inl ⟨by rfl, ?_⟩) (by assumption) ?_
              rotate_left
              · intro w hSw; (try dsimp only at hSw); (try go_split_ands); go_simp
                all_goals with_reducible rfl
              try simp only [Act.put, List.getElem_toArray, List.getElem_cons_zero, List.getElem_cons_succ, List.setIfInBounds_toArray, List.set_cons_zero, List.set_cons_succ]
              refine wpAnyH_take (i := 10) (v := ?_) rfl (by kernel_rfl) (by kernel_rfl) (by kernel_rfl) (fun _ _ _ h => h) (Or.inl ⟨by rfl, ?_⟩) (by assumption) ?_
              rotate_left
              · intro w hSw; (try dsimp only at hSw); (try go_split_ands); go_simp
                all_goals with_reducible rfl
              try simp only [Act.put, List.getElem_toArray, List.getElem_cons_zero, List.getElem_cons_succ, List.setIfInBounds_toArray, List.set_cons_zero, List.set_cons_succ]
              refine wpAnyH_take (i := 11) (v := ?_) rfl (by kernel_rfl) (by kernel_rfl) (by kernel_rfl) (fun _ _ _ h => h) (Or.inl ⟨by rfl, ?_⟩) (by assumption) ?_
              rotate_left
              · intro w hSw; (try dsimp only at hSw); (try go_split_ands); go_simp
                all_goals with_reducible rfl
              try simp only [Act.put, List.getElem_toArray, List.getElem_cons_zero, List.getElem_cons_succ, List.setIfInBounds_toArray, List.set_cons_zero, List.set_cons_succ]
              refine wpAnyH_take (i := 12) (v := ?_) rfl (by kernel_rfl) (by kernel_rfl) (by kernel_rfl) (fun _ _ _ h => h) (Or.inl ⟨by rfl, ?_⟩) (by assumption) ?_
              rotate_left
              · intro w hSw; (try dsimp only at hSw); (try go_split_ands); go_simp
                all_goals with_reducible rfl
              try simp only [Act.put, List.getElem_toArray, List.getElem_cons_zero, List.getElem_cons_succ, List.setIfInBounds_toArray, List.set_cons_zero, List.set_cons_succ]
              refine wpAnyH_take (i := 14) (v := ?_) rfl (by kernel_rfl) (by kernel_rfl) (by kernel_rfl) (fun _ _ _ h => h) (Or.inl ⟨by rfl, ?_⟩) (by assumption) ?_
              rotate_left
              · intro w hSw; (try dsimp only at hSw); (try go_split_ands); go_simp
                all_goals with_reducible rfl
              try simp only [Act.put, List.getElem_toArray, List.getElem_cons_zero, List.getElem_cons_succ, List.setIfInBounds_toArray, List.set_cons_zero, List.set_cons_succ]
              refine wpAnyH_ready (rs := [13]) (by kernel_rfl) (by simp) ?_
              refine AllReadyH.cons rfl (fun K hK => ?_) AllReadyH.nil
              go_simp
              refine (words_m (Y9.out.below hz4) HTY.out).mono ?_
              rintro e y5 ⟨rfl, hy5⟩
              rw [HWY.out]
              have hz5 : Below wc2.heap.size wc2 y5 := hz4.trans (hy5.mono hz4.size)
              go_simp
              refine hK.out _ _ ?_ (fun hHeld => ?_)
              · exact HS.out _ hz5
              clear hK K
              refine wpAnyH_ready (rs := [15]) (by kernel_rfl) (by simp) ?_
              refine AllReadyH.cons rfl (fun K hK => ?_) AllReadyH.nil
              go_simp
              refine (words_m (X9.out.below hz5) HTX.out).mono ?_
              rintro e y6 ⟨rfl, hy6⟩
              rw [HWX.out]
              have hz6 : Below wc2.heap.size wc2 y6 := hz5.trans (hy6.mono hz5.size)
              go_simp
              refine hK.out _ _ ?_ (fun hHeld => ?_)
              · exact HS.out _ hz6
              clear hK K
              refine wpAnyH_take (i := 16) (v := ?_) rfl (by kernel_rfl) (by kernel_rfl) (by kernel_rfl) (fun _ _ _ h => h) (Or.inl ⟨by rfl, ?_⟩) (by assumption) ?_
              rotate_left
              · intro w hSw; (try dsimp only at hSw); (try go_split_ands); go_simp
                all_goals with_reducible rfl
              try simp only [Act.put, List.getElem_toArray, List.getElem_cons_zero, List.getElem_cons_succ, List.setIfInBounds_toArray, List.set_cons_zero, List.set_cons_succ]
              refine wpAnyH_take (i := 17) (v := ?_) rfl (by kernel_rfl) (by kernel_rfl) (by kernel_rfl) (fun _ _ _ h => h) (Or.inl ⟨by rfl, ?_⟩) (by assumption) ?_
              rotate_left
              · intro w hSw; (try dsimp only at hSw); (try go_split_ands); go_simp
                all_goals with_reducible rfl
              try simp only [Act.put, List.getElem_toArray, List.getElem_cons_zero, List.getElem_cons_succ, List.setIfInBounds_toArray, List.set_cons_zero, List.set_cons_succ]
              refine wpAnyH_take (i := 18) (v := ?_) rfl (by kernel_rfl) (by kernel_rfl) (by kernel_rfl) (fun _ _ _ h => h) (Or.inl ⟨by rfl, ?_⟩) (by assumption) ?_
              rotate_left
              · intro w hSw; (try dsimp only at hSw); (try go_split_ands); go_simp
                all_goals with_reducible rfl
              try simp only [Act.put, List.getElem_toArray, List.getElem_cons_zero, List.getElem_cons_succ, List.setIfInBounds_toArray, List.set_cons_zero, List.set_cons_succ]
              refine wpAnyH_take (i := 19) (v := ?_) rfl (by kernel_rfl) (by kernel_rfl) (by kernel_rfl) (fun _ _ _ h => h) (Or.inl ⟨by rfl, ?_⟩) (by assumption) ?_
              rotate_left
              · intro w hSw; (try dsimp only at hSw); (try go_split_ands); go_simp
                all_goals with_reducible rfl
              try simp only [Act.put, List.getElem_toArray, List.getElem_cons_zero, List.getElem_cons_succ, List.setIfInBounds_toArray, List.set_cons_zero, List.set_cons_succ]
              refine wpAnyH_take (i := 20) (v := ?_) rfl (by kernel_rfl) (by kernel_rfl) (by kernel_rfl) (fun _ _ _ h => h) (Or.inl ⟨by rfl, ?_⟩) (by assumption) ?_
              rotate_left
              · intro w hSw; (try dsimp only at hSw); (try go_split_ands); go_simp
                all_goals with_reducible rfl
              try simp only [Act.put, List.getElem_toArray, List.getElem_cons_zero, List.getElem_cons_succ, List.setIfInBounds_toArray, List.set_cons_zero, List.set_cons_succ]
              refine wpAnyH_take (i := 21) (v := ?_) rfl (by kernel_rfl) (by kernel_rfl) (by kernel_rfl) (fun _ _ _ h => h) (Or.inl ⟨by rfl, ?_⟩) (by assumption) ?_
              rotate_left
              · intro w hSw; (try dsimp only at hSw); (try go_split_ands); go_simp
                all_goals with_reducible rfl
              try simp only [Act.put, List.getElem_toArray, List.getElem_cons_zero, List.getElem_cons_succ, List.setIfInBounds_toArray, List.set_cons_zero, List.set_cons_succ]
              refine wpAnyH_take (i := 22) (v := ?_) rfl (by kernel_rfl) (by kernel_rfl) (by kernel_rfl) (fun _ _ _ h => h) (Or.inl ⟨by rfl, ?_⟩) (by assumption) ?_
              rotate_left
              · intro w hSw; (try dsimp only at hSw); (try go_split_ands); go_simp
                all_goals with_reducible rfl
              try simp only [Act.put, List.getElem_toArray, List.getElem_cons_zero, List.getElem_cons_succ, List.setIfInBounds_toArray, List.set_cons_zero, List.set_cons_succ]
              refine wpAnyH_take (i := 23) (v := ?_) rfl (by kernel_rfl) (by kernel_rfl) (by kernel_rfl) (fun _ _ _ h => h) (Or.inl ⟨by rfl, ?_⟩) (by assumption) ?_
              rotate_left
              · intro w hSw; (try dsimp only at hSw); (try go_split_ands); go_simp
                all_goals with_reducible rfl
              try simp only [Act.put, List.getElem_toArray, List.getElem_cons_zero, List.getElem_cons_succ, List.setIfInBounds_toArray, List.set_cons_zero, List.set_cons_succ]
              refine wpAnyH_take (i := 24) (v := ?_) rfl (by kernel_rfl) (by kernel_rfl) (by kernel_rfl) (fun _ _ _ h => h) (Or.inl ⟨by rfl, ?_⟩) (by assumption) ?_
              rotate_left
              · intro w hSw; (try dsimp only at hSw); (try go_split_ands); go_simp
                all_goals with_reducible rfl
              try simp only [Act.put, List.getElem_toArray, List.getElem_cons_zero, List.getElem_cons_succ, List.setIfInBounds_toArray, List.set_cons_zero, List.set_cons_succ]
              refine wpAnyH_take (i := 25) (v := ?_) rfl (by kernel_rfl) (by kernel_rfl) (by kernel_rfl) (fun _ _ _ h => h) (Or.inl ⟨by rfl, ?_⟩) (by assumption) ?_
              rotate_left
              · intro w hSw; (try dsimp only at hSw); (try go_split_ands); go_simp
                all_goals with_reducible rfl
              try simp only [Act.put, List.getElem_toArray, List.getElem_cons_zero, List.getElem_cons_succ, List.setIfInBounds_toArray, List.set_cons_zero, List.set_cons_succ]
              refine wpAnyH_take (i := 26) (v := ?_) rfl (by kernel_rfl) (by kernel_rfl) (by kernel_rfl) (fun _ _ _ h => h) (Or.inl ⟨by rfl, ?_⟩) (by assumption) ?_
              rotate_left
              · intro w hSw; (try dsimp only at hSw); (try go_split_ands); go_simp
                all_goals with_reducible rfl
              try simp only [Act.put, List.getElem_toArray, List.getElem_cons_zero, List.getElem_cons_succ, List.setIfInBounds_toArray, List.set_cons_zero, List.set_cons_succ]
              refine wpAnyH_take (i := 27) (v := ?_) rfl (by kernel_rfl) (by kernel_rfl) (by kernel_rfl) (fun _ _ _ h => h) (Or.inl ⟨by rfl, ?_⟩) (by assumption) ?_
              rotate_left
              · intro w hSw; (try dsimp only at hSw); (try go_split_ands); go_simp
                all_goals with_reducible rfl
              try simp only [Act.put, List.getElem_toArray, List.getElem_cons_zero, List.getElem_cons_succ, List.setIfInBounds_toArray, List.set_cons_zero, List.set_cons_succ]
              refine wpAnyH_take (i := 28) (v := ?_) rfl (by kernel_rfl) (by kernel_rfl) (by kernel_rfl) (fun _ _ _ h => h) (Or.inl ⟨by rfl, ?_⟩) (by assumption) ?_
              rotate_left
              · intro w hSw; (try dsimp only at hSw); (try go_split_ands); go_simp
                all_goals with_reducible rfl
              try simp only [Act.put, List.getElem_toArray, List.getElem_cons_zero, List.getElem_cons_succ, List.setIfInBounds_toArray, List.set_cons_zero, List.set_cons_succ]
              refine wpAnyH_take (i := 29) (v := ?_) rfl (by kernel_rfl) (by kernel_rfl) (by kernel_rfl) (fun _ _ _ h => h) (Or.inl ⟨by rfl, ?_⟩) (by assumption) ?_
              rotate_left
              · intro w hSw; (try dsimp only at hSw); (try go_split_ands); go_simp
                all_goals with_reducible rfl
              try simp only [Act.put, List.getElem_toArray, List.getElem_cons_zero, List.getElem_cons_succ, List.setIfInBounds_toArray, List.set_cons_zero, List.set_cons_succ]
              refine wpAnyH_take (i := 30) (v := ?_) rfl (by kernel_rfl) (by kernel_rfl) (by kernel_rfl) (fun _ _ _ h => h) (Or.inl ⟨by rfl, ?_⟩) (by assumption) ?_
              rotate_left
              · intro w hSw; (try dsimp only at hSw); (try go_split_ands); go_simp
                all_goals with_reducible rfl
              try simp only [Act.put, List.getElem_toArray, List.getElem_cons_zero, List.getElem_cons_succ, List.setIfInBounds_toArray, List.set_cons_zero, List.set_cons_succ]
              refine wpAnyH_take (i := 31) (v := ?_) rfl (by kernel_rfl) (by kernel_rfl) (by kernel_rfl) (fun _ _ _ h => h) (Or.inl ⟨by rfl, ?_⟩) (by assumption) ?_
              rotate_left
              · intro w hSw; (try dsimp only at hSw); (try go_split_ands); go_simp
                all_goals with_reducible rfl
              try simp only [Act.put, List.getElem_toArray, List.getElem_cons_zero, List.getElem_cons_succ, List.setIfInBounds_toArray, List.set_cons_zero, List.set_cons_succ]
              refine wpAnyH_take (i := 32) (v := ?_) rfl (by kernel_rfl) (by kernel_rfl) (by kernel_rfl) (fun _ _ _ h => h) (Or.inl ⟨by rfl, ?_⟩) (by assumption) ?_
              rotate_left
              · intro w hSw; (try dsimp only at hSw); (try go_split_ands); go_simp
                all_goals with_reducible rfl
              try simp only [Act.put, List.getElem_toArray, List.getElem_cons_zero, List.getElem_cons_succ, List.setIfInBounds_toArray, List.set_cons_zero, List.set_cons_succ]
              refine wpAnyH_take (i := 33) (v := ?_) rfl (by kernel_rfl) (by kernel_rfl) (by kernel_rfl) (fun _ _ _ h => h) (Or.inl ⟨by rfl, ?_⟩) (by assumption) ?_
              rotate_left
              · intro w hSw; (try dsimp only at hSw); (try go_split_ands); go_simp
                all_goals with_reducible rfl
              try simp only [Act.put, List.getElem_toArray, List.getElem_cons_zero, List.getElem_cons_succ, List.setIfInBounds_toArray, List.set_cons_zero, List.set_cons_succ]
              refine wpAnyH_take (i := 34) (v := ?_) rfl (by kernel_rfl) (by kernel_rfl) (by kernel_rfl) (fun _ _ _ h => h) (Or.inl ⟨by rfl, ?_⟩) (by assumption) ?_
              rotate_left
              · intro w hSw; (try dsimp only at hSw); (try go_split_ands); go_simp
                all_goals with_reducible rfl
              try simp only [Act.put, List.getElem_toArray, List.getElem_cons_zero, List.getElem_cons_succ, List.setIfInBounds_toArray, List.set_cons_zero, List.set_cons_succ]
              refine wpAnyH_take (i := 35) (v := undef) rfl (by kernel_rfl) (by kernel_rfl) (by kernel_rfl) (fun _ _ _ h => h) (Or.inr ⟨by rfl, rfl⟩) (by assumption) ?_
              try simp only [Act.put, List.getElem_toArray, List.getElem_cons_zero, List.getElem_cons_succ, List.setIfInBounds_toArray, List.set_cons_zero, List.set_cons_succ]
              refine wpAnyH_take (i := 36) (v := undef) rfl (by kernel_rfl) (by kernel_rfl) (by kernel_rfl) (fun _ _ _ h => h) (Or.inr ⟨by rfl, rfl⟩) (by assumption) ?_
              try simp only [Act.put, List.getElem_toArray, List.getElem_cons_zero, List.getElem_cons_succ, List.setIfInBounds_toArray, List.set_cons_zero, List.set_cons_succ]
              refine wpAnyH_take (i := 37) (v := undef) rfl (by kernel_rfl) (by kernel_rfl) (by kernel_rfl) (fun _ _ _ h => h) (Or.inr ⟨by rfl, rfl⟩) (by assumption) ?_
              try simp only [Act.put, List.getElem_toArray, List.getElem_cons_zero, List.getElem_cons_succ, List.setIfInBounds_toArray, List.set_cons_zero, List.set_cons_succ]
              refine wpAnyH_take (i := 38) (v := undef) rfl (by kernel_rfl) (by kernel_rfl) (by kernel_rfl) (fun _ _ _ h => h) (Or.inr ⟨by rfl, rfl⟩) (by assumption) ?_
              try simp only [Act.put, List.getElem_toArray, List.getElem_cons_zero, List.getElem_cons_succ, List.setIfInBounds_toArray, List.set_cons_zero, List.set_cons_succ]
              refine wpAnyH_take (i := 39) (v := undef) rfl (by kernel_rfl) (by kernel_rfl) (by kernel_rfl) (fun _ _ _ h => h) (Or.inr ⟨by rfl, rfl⟩) (by assumption) ?_
              try simp only [Act.put, List.getElem_toArray, List.getElem_cons_zero, List.getElem_cons_succ, List.setIfInBounds_toArray, List.set_cons_zero, List.set_cons_succ]
              refine wpAnyH_take (i := 40) (v := undef) rfl (by kernel_rfl) (by kernel_rfl) (by kernel_rfl) (fun _ _ _ h => h) (Or.inr ⟨by rfl, rfl⟩) (by assumption) ?_
              try simp only [Act.put, List.getElem_toArray, List.getElem_cons_zero, List.getElem_cons_succ, List.setIfInBounds_toArray, List.set_cons_zero, List.set_cons_succ]
              refine wpAnyH_take (i := 41) (v := undef) rfl (by kernel_rfl) (by kernel_rfl) (by kernel_rfl) (fun _ _ _ h => h) (Or.inr ⟨by rfl, rfl⟩) (by assumption) ?_
              try simp only [Act.put, List.getElem_toArray, List.getElem_cons_zero, List.getElem_cons_succ, List.setIfInBounds_toArray, List.set_cons_zero, List.set_cons_succ]
              refine wpAnyH_take (i := 42) (v := undef) rfl (by kernel_rfl) (by kernel_rfl) (by kernel_rfl) (fun _ _ _ h => h) (Or.inr ⟨by rfl, rfl⟩) (by assumption) ?_
              try simp only [Act.put, List.getElem_toArray, List.getElem_cons_zero, List.getElem_cons_succ, List.setIfInBounds_toArray, List.set_cons_zero, List.set_cons_succ]
              refine wpAnyH_take (i := 43) (v := undef) rfl (by kernel_rfl) (by kernel_rfl) (by kernel_rfl) (fun _ _ _ h => h) (Or.inr ⟨by rfl, rfl⟩) (by assumption) ?_
              try simp only [Act.put, List.getElem_toArray, List.getElem_cons_zero, List.getElem_cons_succ, List.setIfInBounds_toArray, List.set_cons_zero, List.set_cons_succ]
              refine wpAnyH_take (i := 44) (v := undef) rfl (by kernel_rfl) (by kernel_rfl) (by kernel_rfl) (fun _ _ _ h => h) (Or.inr ⟨by rfl, rfl⟩) (by assumption) ?_
              try simp only [Act.put, List.getElem_toArray, List.getElem_cons_zero, List.getElem_cons_succ, List.setIfInBounds_toArray, List.set_cons_zero, List.set_cons_succ]
              refine wpAnyH_take (i := 45) (v := ?_) rfl (by kernel_rfl) (by kernel_rfl) (by kernel_rfl) (fun _ _ _ h => h) (Or.inl ⟨by rfl, ?_⟩) (by assumption) ?_
              rotate_left
              · intro w hSw; (try dsimp only at hSw); (try go_split_ands); go_simp
                all_goals with_reducible rfl
              try simp only [Act.put, List.getElem_toArray, List.getElem_cons_zero, List.getElem_cons_succ, List.setIfInBounds_toArray, List.set_cons_zero, List.set_cons_succ]
              refine wpAnyH_take (i := 46) (v := ?_) rfl (by kernel_rfl) (by kernel_rfl) (by kernel_rfl) (fun _ _ _ h => h) (Or.inl ⟨by rfl, ?_⟩) (by assumption) ?_
              rotate_left
              · intro w hSw; (try dsimp only at hSw); (try go_split_ands); go_simp
                all_goals with_reducible rfl
              try simp only [Act.put, List.getElem_toArray, List.getElem_cons_zero, List.getElem_cons_succ, List.setIfInBounds_toArray, List.set_cons_zero, List.set_cons_succ]
              refine wpAnyH_take (i := 47) (v := ?_) rfl (by kernel_rfl) (by kernel_rfl) (by kernel_rfl) (fun _ _ _ h => h) (Or.inl ⟨by rfl, ?_⟩) (by assumption) ?_
              rotate_left
              · intro w hSw; (try dsimp only at hSw); (try go_split_ands); go_simp
                all_goals with_reducible rfl
              try simp only [Act.put, List.getElem_toArray, List.getElem_cons_zero, List.getElem_cons_succ, List.setIfInBounds_toArray, List.set_cons_zero, List.set_cons_succ]
              refine wpAnyH_done (by kernel_rfl) ?_ _
              go_wp2_with fail
              go_ret
              exact ⟨rfl, hwB.trans (hz6.mono hwB.size)⟩
            | false =>
              obtain ⟨SA, hSA, hzA⟩ : ∃ S : ByteArray, flatP (leavesD da) = .tuple #[.string S, .bool true] ∧ S.size ≤ 500 := ⟨_, by rw [flatP, ea]; rfl, by rw [if_neg (by decide), size_arr]; have := line_tot da; omega⟩
              obtain ⟨SB, hSB, hzB⟩ : ∃ S : ByteArray, flatP (leavesD db) = .tuple #[.string S, .bool true] ∧ S.size ≤ 500 := ⟨_, by rw [flatP, eb]; rfl, by rw [if_neg (by decide), size_arr]; have := line_tot db; omega⟩
              have hFX : flatP (leavesD (.mk 7 ByteArray.empty 0 (.cons da (.cons (fitD db) .nil)))) = .tuple #[.string (SA ++ SB), .bool true] := by
                rw [flatP, ea] at hSA
                rw [flatP, eb] at hSB
                have h1 : (⟨(lineL (leavesD da)).toArray⟩ : ByteArray) = SA := by simpa using hSA
                have h2 : (⟨(lineL (leavesD db)).toArray⟩ : ByteArray) = SB := by simpa using hSB
                rw [leaves_2, leaves_fit, flatP, hardL_append2, ea, eb, lineL_append, arr_append, h1, h2]
                rfl
              have hFY : flatP (leavesD (.mk 7 ByteArray.empty 0 (.cons (fitD (inD n da)) (.cons db .nil)))) = .tuple #[.string (SA ++ SB), .bool true] := by
                rw [leaves_2, leaves_fit] at hFX
                rw [leaves_2, leaves_fit, leaves_in, hFX]
              have HFA := hide hSA
              have HFB := hide hSB
              have HFX := hide hFX
              have HFY := hide hFY
              clear hSA hSB hFX hFY ea eb
              obtain ⟨p0, p1, p2, p3⟩ := BA8.out.four
              go_wp2_with fail
              refine (flat_m A8.out (by omega)).mono ?_
              rintro e v1 ⟨rfl, hv1⟩
              rw [HFA.out]
              have hx1 : Below w8.heap.size w8 v1 := (Below.refl w8.heap.size w8).trans (hv1.mono (Below.refl w8.heap.size w8).size)
              clear p0 p1 p2 p3
              obtain ⟨p0, p1, p2, p3⟩ := (BB8.out.below hx1 BB8.out.lt).four
              go_wp2_with fail
              refine (flat_m (B8.out.below hx1) (by omega)).mono ?_
              rintro e v2 ⟨rfl, hv2⟩
              rw [HFB.out]
              have hx2 : Below w8.heap.size w8 v2 := hx1.trans (hv2.mono hx1.size)
              clear p0 p1 p2 p3
              obtain ⟨p0, p1, p2, p3⟩ := (BX8.out.below hx2 BX8.out.lt).four
              go_wp2_with fail
              refine (flat_m (X8.out.below hx2) HTX.out).mono ?_
              rintro e v3 ⟨rfl, hv3⟩
              rw [HFX.out]
              have hx3 : Below w8.heap.size w8 v3 := hx2.trans (hv3.mono hx2.size)
              clear p0 p1 p2 p3
              obtain ⟨p0, p1, p2, p3⟩ := (BY8.out.below hx3 BY8.out.lt).four
              go_wp2_with fail
              refine (flat_m (Y8.out.below hx3) HTY.out).mono ?_
              rintro e v4 ⟨rfl, hv4⟩
              rw [HFY.out]
              have hx4 : Below w8.heap.size w8 v4 := hx3.trans (hv4.mono hx3.size)
              clear p0 p1 p2 p3
              obtain ⟨wc2, hwc2⟩ : ∃ u, v4.drew = u := ⟨_, rfl⟩
              have hdc : Below v4.heap.size v4 wc2 := hwc2 ▸ (Below.refl _ v4).drew
              have hb9 : Below w8.heap.size w8 wc2 := hx4.trans (hdc.mono hx4.size)
              have hwB : Below w.heap.size w wc2 := hw8.trans (hb9.mono hw8.size)
              obtain ⟨p0, p1, p2, p3⟩ := (BA8.out.below hx4 BA8.out.lt).four
              obtain ⟨q0, q1, q2, q3⟩ := (BB8.out.below hx4 BB8.out.lt).four
              obtain ⟨r0, r1, r2, r3⟩ := (BX8.out.below hx4 BX8.out.lt).four
              obtain ⟨t0, t1, t2, t3⟩ := (BY8.out.below hx4 BY8.out.lt).four
              have A9 := hide (A8.out.below hb9)
              have B9 := hide (B8.out.below hb9)
              have X9 := hide (X8.out.below hb9)
              have Y9 := hide (Y8.out.below hb9)
              have hS : ∀ wn, Below wc2.heap.size wc2 wn → (fun w' => w'.cell? ⟨w1.heap.size, 0, none⟩ = some (.int .i64 k1) ∧ w'.cell? ⟨w1.heap.size, 1, none⟩ = some (.string s1) ∧ w'.cell? ⟨w1.heap.size, 2, none⟩ = some (.int .i64 n1) ∧ w'.cell? ⟨w1.heap.size, 3, none⟩ = some (.slice a1 m1 c1) ∧ w'.cell? ⟨w3.heap.size, 0, none⟩ = some (.int .i64 k2) ∧ w'.cell? ⟨w3.heap.size, 1, none⟩ = some (.string s2) ∧ w'.cell? ⟨w3.heap.size, 2, none⟩ = some (.int .i64 n2) ∧ w'.cell? ⟨w3.heap.size, 3, none⟩ = some (.slice a2 m2 c2) ∧ w'.cell? ⟨g11, 0, none⟩ = some (.int .i64 kx) ∧ w'.cell? ⟨g11, 1, none⟩ = some (.string sx) ∧ w'.cell? ⟨g11, 2, none⟩ = some (.int .i64 nx) ∧ w'.cell? ⟨g11, 3, none⟩ = some (.slice ax mx cx) ∧ w'.cell? ⟨g12, 0, none⟩ = some (.int .i64 ky) ∧ w'.cell? ⟨g12, 1, none⟩ = some (.string sy) ∧ w'.cell? ⟨g12, 2, none⟩ = some (.int .i64 ny) ∧ w'.cell? ⟨g12, 3, none⟩ = some (.slice ay my cy)) wn := fun wn h => by
                have h6 : Below w8.heap.size w8 wn := hb9.trans (h.mono hb9.size)
                obtain ⟨e0, e1, e2, e3⟩ := (BA8.out.below h6 BA8.out.lt).four
                obtain ⟨f0, f1, f2, f3⟩ := (BB8.out.below h6 BB8.out.lt).four
                obtain ⟨i0, i1, i2, i3⟩ := (BX8.out.below h6 BX8.out.lt).four
                obtain ⟨j0, j1, j2, j3⟩ := (BY8.out.below h6 BY8.out.lt).four
                exact ⟨e0, e1, e2, e3, f0, f1, f2, f3, i0, i1, i2, i3, j0, j1, j2, j3⟩
              have HS := hide hS
              clear hS hb9 hdc hx1 hx2 hx3
              go_wp2_with fail
              refine wp_region_held_drew (S := fun w' => w'.cell? ⟨w1.heap.size, 0, none⟩ = some (.int .i64 k1) ∧ w'.cell? ⟨w1.heap.size, 1, none⟩ = some (.string s1) ∧ w'.cell? ⟨w1.heap.size, 2, none⟩ = some (.int .i64 n1) ∧ w'.cell? ⟨w1.heap.size, 3, none⟩ = some (.slice a1 m1 c1) ∧ w'.cell? ⟨w3.heap.size, 0, none⟩ = some (.int .i64 k2) ∧ w'.cell? ⟨w3.heap.size, 1, none⟩ = some (.string s2) ∧ w'.cell? ⟨w3.heap.size, 2, none⟩ = some (.int .i64 n2) ∧ w'.cell? ⟨w3.heap.size, 3, none⟩ = some (.slice a2 m2 c2) ∧ w'.cell? ⟨g11, 0, none⟩ = some (.int .i64 kx) ∧ w'.cell? ⟨g11, 1, none⟩ = some (.string sx) ∧ w'.cell? ⟨g11, 2, none⟩ = some (.int .i64 nx) ∧ w'.cell? ⟨g11, 3, none⟩ = some (.slice ax mx cx) ∧ w'.cell? ⟨g12, 0, none⟩ = some (.int .i64 ky) ∧ w'.cell? ⟨g12, 1, none⟩ = some (.string sy) ∧ w'.cell? ⟨g12, 2, none⟩ = some (.int .i64 ny) ∧ w'.cell? ⟨g12, 3, none⟩ = some (.slice ay my cy)) (by kernel_rfl) ?_ (fun hHeld => ?_)
              · exact ⟨p0, p1, p2, p3, q0, q1, q2, q3, r0, r1, r2, r3, t0, t1, t2, t3⟩
              rw [hwc2] at hHeld ⊢
              refine wpAnyH_ready (rs := [0]) (by kernel_rfl) (by simp) ?_
              refine AllReadyH.cons rfl (fun K hK => ?_) AllReadyH.nil
              go_simp
              refine (known_any wc2).mono ?_
              rintro e y1 ⟨rfl, hy1⟩
              have hz1 : Below wc2.heap.size wc2 y1 := (Below.refl wc2.heap.size wc2).trans (hy1.mono (Below.refl wc2.heap.size wc2).size)
              go_simp
              refine hK.out _ _ ?_ (fun hHeld => ?_)
              · exact HS.out _ hz1
              clear hK K
              refine wpAnyH_take (i := 1) (v := ?_) rfl (by kernel_rfl) (by kernel_rfl) (by kernel_rfl) (fun _ _ _ h => h) (Or.inl ⟨by rfl, ?_⟩) (by assumption) ?_
              rotate_left
              · intro w hSw; (try dsimp only at hSw); (try go_split_ands); go_simp
                all_goals with_reducible rfl
              try simp only [Act.put, List.getElem_toArray, List.getElem_cons_zero, List.getElem_cons_succ, List.setIfInBounds_toArray, List.set_cons_zero, List.set_cons_succ]
              refine wpAnyH_take (i := 2) (v := ?_) rfl (by kernel_rfl) (by kernel_rfl) (by kernel_rfl) (fun _ _ _ h => h) (Or.inl ⟨by rfl, ?_⟩) (by assumption) ?_
              rotate_left
              · intro w hSw; (try dsimp only at hSw); (try go_split_ands); go_simp
                all_goals with_reducible rfl
              try simp only [Act.put, List.getElem_toArray, List.getElem_cons_zero, List.getElem_cons_succ, List.setIfInBounds_toArray, List.set_cons_zero, List.set_cons_succ]
              refine wpAnyH_take (i := 4) (v := ?_) rfl (by kernel_rfl) (by kernel_rfl) (by kernel_rfl) (fun _ _ _ h => h) (Or.inl ⟨by rfl, ?_⟩) (by assumption) ?_
              rotate_left
              · intro w hSw; (try dsimp only at hSw); (try go_split_ands); go_simp
                all_goals with_reducible rfl
              try simp only [Act.put, List.getElem_toArray, List.getElem_cons_zero, List.getElem_cons_succ, List.setIfInBounds_toArray, List.set_cons_zero, List.set_cons_succ]
              refine wpAnyH_take (i := 6) (v := ?_) rfl (by kernel_rfl) (by kernel_rfl) (by kernel_rfl) (fun _ _ _ h => h) (Or.inl ⟨by rfl, ?_⟩) (by assumption) ?_
              rotate_left
              · intro w hSw; (try dsimp only at hSw); (try go_split_ands); go_simp
                all_goals with_reducible rfl
              try simp only [Act.put, List.getElem_toArray, List.getElem_cons_zero, List.getElem_cons_succ, List.setIfInBounds_toArray, List.set_cons_zero, List.set_cons_succ]
              refine wpAnyH_ready (rs := [3]) (by kernel_rfl) (by simp) ?_
              refine AllReadyH.cons rfl (fun K hK => ?_) AllReadyH.nil
              go_simp
              refine (words_m (X9.out.below hz1) HTX.out).mono ?_
              rintro e y2 ⟨rfl, hy2⟩
              rw [HWX.out]
              have hz2 : Below wc2.heap.size wc2 y2 := hz1.trans (hy2.mono hz1.size)
              go_simp
              refine hK.out _ _ ?_ (fun hHeld => ?_)
              · exact HS.out _ hz2
              clear hK K
              refine wpAnyH_ready (rs := [5]) (by kernel_rfl) (by simp) ?_
              refine AllReadyH.cons rfl (fun K hK => ?_) AllReadyH.nil
              go_simp
              refine (words_m (A9.out.below hz2) (by omega)).mono ?_
              rintro e y3 ⟨rfl, hy3⟩
              rw [HWA.out]
              have hz3 : Below wc2.heap.size wc2 y3 := hz2.trans (hy3.mono hz2.size)
              go_simp
              refine hK.out _ _ ?_ (fun hHeld => ?_)
              · exact HS.out _ hz3
              clear hK K
              refine wpAnyH_ready (rs := [7]) (by kernel_rfl) (by simp) ?_
              refine AllReadyH.cons rfl (fun K hK => ?_) AllReadyH.nil
              go_simp
              refine (words_m (B9.out.below hz3) (by omega)).mono ?_
              rintro e y4 ⟨rfl, hy4⟩
              rw [HWB.out]
              have hz4 : Below wc2.heap.size wc2 y4 := hz3.trans (hy4.mono hz3.size)
              go_simp
              refine hK.out _ _ ?_ (fun hHeld => ?_)
              · exact HS.out _ hz4
              clear hK K
              have hab : ¬ 9223372036854775807 < TA.size + TB.size := by omega
              refine wpAnyH_take (i := 8) (v := ?_) rfl (by kernel_rfl) (by kernel_rfl) (by kernel_rfl) (fun _ _ _ h => h) (Or.inl ⟨by rfl, ?_⟩) (by assumption) ?_
              rotate_left
              · intro w hSw; (try dsimp only at hSw); (try go_split_ands); go_simp
                all_goals with_reducible rfl
              try simp only [Act.put, List.getElem_toArray, List.getElem_cons_zero, List.getElem_cons_succ, List.setIfInBounds_toArray, List.set_cons_zero, List.set_cons_succ]
              clear hab
              refine wpAnyH_take (i := 9) (v := ?_) rfl (by kernel_rfl) (by kernel_rfl) (by kernel_rfl) (fun _ _ _ h => h) (Or.inl ⟨by rfl, ?_⟩) (by assumption) ?_
              rotate_left
              · intro w hSw; (try dsimp only at hSw); (try go_split_ands); go_simp
                all_goals with_reducible rfl
              try simp only [Act.put, List.getElem_toArray, List.getElem_cons_zero, List.getElem_cons_succ, List.setIfInBounds_toArray, List.set_cons_zero, List.set_cons_succ]
              refine wpAnyH_take (i := 10) (v := ?_) rfl (by kernel_rfl) (by kernel_rfl) (by kernel_rfl) (fun _ _ _ h => h) (Or.inl ⟨by rfl, ?_⟩) (by assumption) ?_
              rotate_left
              · intro w hSw; (try dsimp only at hSw); (try go_split_ands); go_simp
                all_goals with_reducible rfl
              try simp only [Act.put, List.getElem_toArray, List.getElem_cons_zero, List.getElem_cons_succ, List.setIfInBounds_toArray, List.set_cons_zero, List.set_cons_succ]
              refine wpAnyH_take (i := 11) (v := ?_) rfl (by kernel_rfl) (by kernel_rfl) (by kernel_rfl) (fun _ _ _ h => h) (Or.inl ⟨by rfl, ?_⟩) (by assumption) ?_
              rotate_left
              · intro w hSw; (try dsimp only at hSw); (try go_split_ands); go_simp
                all_goals with_reducible rfl
              try simp only [Act.put, List.getElem_toArray, List.getElem_cons_zero, List.getElem_cons_succ, List.setIfInBounds_toArray, List.set_cons_zero, List.set_cons_succ]
              refine wpAnyH_take (i := 12) (v := ?_) rfl (by kernel_rfl) (by kernel_rfl) (by kernel_rfl) (fun _ _ _ h => h) (Or.inl ⟨by rfl, ?_⟩) (by assumption) ?_
              rotate_left
              · intro w hSw; (try dsimp only at hSw); (try go_split_ands); go_simp
                all_goals with_reducible rfl
              try simp only [Act.put, List.getElem_toArray, List.getElem_cons_zero, List.getElem_cons_succ, List.setIfInBounds_toArray, List.set_cons_zero, List.set_cons_succ]
              refine wpAnyH_take (i := 14) (v := ?_) rfl (by kernel_rfl) (by kernel_rfl) (by kernel_rfl) (fun _ _ _ h => h) (Or.inl ⟨by rfl, ?_⟩) (by assumption) ?_
              rotate_left
              · intro w hSw; (try dsimp only at hSw); (try go_split_ands); go_simp
                all_goals with_reducible rfl
              try simp only [Act.put, List.getElem_toArray, List.getElem_cons_zero, List.getElem_cons_succ, List.setIfInBounds_toArray, List.set_cons_zero, List.set_cons_succ]
              refine wpAnyH_ready (rs := [13]) (by kernel_rfl) (by simp) ?_
              refine AllReadyH.cons rfl (fun K hK => ?_) AllReadyH.nil
              go_simp
              refine (words_m (Y9.out.below hz4) HTY.out).mono ?_
              rintro e y5 ⟨rfl, hy5⟩
              rw [HWY.out]
              have hz5 : Below wc2.heap.size wc2 y5 := hz4.trans (hy5.mono hz4.size)
              go_simp
              refine hK.out _ _ ?_ (fun hHeld => ?_)
              · exact HS.out _ hz5
              clear hK K
              refine wpAnyH_ready (rs := [15]) (by kernel_rfl) (by simp) ?_
              refine AllReadyH.cons rfl (fun K hK => ?_) AllReadyH.nil
              go_simp
              refine (words_m (X9.out.below hz5) HTX.out).mono ?_
              rintro e y6 ⟨rfl, hy6⟩
              rw [HWX.out]
              have hz6 : Below wc2.heap.size wc2 y6 := hz5.trans (hy6.mono hz5.size)
              go_simp
              refine hK.out _ _ ?_ (fun hHeld => ?_)
              · exact HS.out _ hz6
              clear hK K
              refine wpAnyH_take (i := 16) (v := ?_) rfl (by kernel_rfl) (by kernel_rfl) (by kernel_rfl) (fun _ _ _ h => h) (Or.inl ⟨by rfl, ?_⟩) (by assumption) ?_
              rotate_left
              · intro w hSw; (try dsimp only at hSw); (try go_split_ands); go_simp
                all_goals with_reducible rfl
              try simp only [Act.put, List.getElem_toArray, List.getElem_cons_zero, List.getElem_cons_succ, List.setIfInBounds_toArray, List.set_cons_zero, List.set_cons_succ]
              refine wpAnyH_take (i := 17) (v := ?_) rfl (by kernel_rfl) (by kernel_rfl) (by kernel_rfl) (fun _ _ _ h => h) (Or.inl ⟨by rfl, ?_⟩) (by assumption) ?_
              rotate_left
              · intro w hSw; (try dsimp only at hSw); (try go_split_ands); go_simp
                all_goals with_reducible rfl
              try simp only [Act.put, List.getElem_toArray, List.getElem_cons_zero, List.getElem_cons_succ, List.setIfInBounds_toArray, List.set_cons_zero, List.set_cons_succ]
              refine wpAnyH_take (i := 18) (v := ?_) rfl (by kernel_rfl) (by kernel_rfl) (by kernel_rfl) (fun _ _ _ h => h) (Or.inl ⟨by rfl, ?_⟩) (by assumption) ?_
              rotate_left
              · intro w hSw; (try dsimp only at hSw); (try go_split_ands); go_simp
                all_goals with_reducible rfl
              try simp only [Act.put, List.getElem_toArray, List.getElem_cons_zero, List.getElem_cons_succ, List.setIfInBounds_toArray, List.set_cons_zero, List.set_cons_succ]
              refine wpAnyH_take (i := 19) (v := ?_) rfl (by kernel_rfl) (by kernel_rfl) (by kernel_rfl) (fun _ _ _ h => h) (Or.inl ⟨by rfl, ?_⟩) (by assumption) ?_
              rotate_left
              · intro w hSw; (try dsimp only at hSw); (try go_split_ands); go_simp
                all_goals with_reducible rfl
              try simp only [Act.put, List.getElem_toArray, List.getElem_cons_zero, List.getElem_cons_succ, List.setIfInBounds_toArray, List.set_cons_zero, List.set_cons_succ]
              refine wpAnyH_take (i := 20) (v := ?_) rfl (by kernel_rfl) (by kernel_rfl) (by kernel_rfl) (fun _ _ _ h => h) (Or.inl ⟨by rfl, ?_⟩) (by assumption) ?_
              rotate_left
              · intro w hSw; (try dsimp only at hSw); (try go_split_ands); go_simp
                all_goals with_reducible rfl
              try simp only [Act.put, List.getElem_toArray, List.getElem_cons_zero, List.getElem_cons_succ, List.setIfInBounds_toArray, List.set_cons_zero, List.set_cons_succ]
              refine wpAnyH_take (i := 21) (v := ?_) rfl (by kernel_rfl) (by kernel_rfl) (by kernel_rfl) (fun _ _ _ h => h) (Or.inl ⟨by rfl, ?_⟩) (by assumption) ?_
              rotate_left
              · intro w hSw; (try dsimp only at hSw); (try go_split_ands); go_simp
                all_goals with_reducible rfl
              try simp only [Act.put, List.getElem_toArray, List.getElem_cons_zero, List.getElem_cons_succ, List.setIfInBounds_toArray, List.set_cons_zero, List.set_cons_succ]
              refine wpAnyH_take (i := 22) (v := ?_) rfl (by kernel_rfl) (by kernel_rfl) (by kernel_rfl) (fun _ _ _ h => h) (Or.inl ⟨by rfl, ?_⟩) (by assumption) ?_
              rotate_left
              · intro w hSw; (try dsimp only at hSw); (try go_split_ands); go_simp
                all_goals with_reducible rfl
              try simp only [Act.put, List.getElem_toArray, List.getElem_cons_zero, List.getElem_cons_succ, List.setIfInBounds_toArray, List.set_cons_zero, List.set_cons_succ]
              refine wpAnyH_take (i := 23) (v := ?_) rfl (by kernel_rfl) (by kernel_rfl) (by kernel_rfl) (fun _ _ _ h => h) (Or.inl ⟨by rfl, ?_⟩) (by assumption) ?_
              rotate_left
              · intro w hSw; (try dsimp only at hSw); (try go_split_ands); go_simp
                all_goals with_reducible rfl
              try simp only [Act.put, List.getElem_toArray, List.getElem_cons_zero, List.getElem_cons_succ, List.setIfInBounds_toArray, List.set_cons_zero, List.set_cons_succ]
              refine wpAnyH_take (i := 24) (v := ?_) rfl (by kernel_rfl) (by kernel_rfl) (by kernel_rfl) (fun _ _ _ h => h) (Or.inl ⟨by rfl, ?_⟩) (by assumption) ?_
              rotate_left
              · intro w hSw; (try dsimp only at hSw); (try go_split_ands); go_simp
                all_goals with_reducible rfl
              try simp only [Act.put, List.getElem_toArray, List.getElem_cons_zero, List.getElem_cons_succ, List.setIfInBounds_toArray, List.set_cons_zero, List.set_cons_succ]
              refine wpAnyH_take (i := 25) (v := ?_) rfl (by kernel_rfl) (by kernel_rfl) (by kernel_rfl) (fun _ _ _ h => h) (Or.inl ⟨by rfl, ?_⟩) (by assumption) ?_
              rotate_left
              · intro w hSw; (try dsimp only at hSw); (try go_split_ands); go_simp
                all_goals with_reducible rfl
              try simp only [Act.put, List.getElem_toArray, List.getElem_cons_zero, List.getElem_cons_succ, List.setIfInBounds_toArray, List.set_cons_zero, List.set_cons_succ]
              refine wpAnyH_take (i := 26) (v := ?_) rfl (by kernel_rfl) (by kernel_rfl) (by kernel_rfl) (fun _ _ _ h => h) (Or.inl ⟨by rfl, ?_⟩) (by assumption) ?_
              rotate_left
              · intro w hSw; (try dsimp only at hSw); (try go_split_ands); go_simp
                all_goals with_reducible rfl
              try simp only [Act.put, List.getElem_toArray, List.getElem_cons_zero, List.getElem_cons_succ, List.setIfInBounds_toArray, List.set_cons_zero, List.set_cons_succ]
              refine wpAnyH_take (i := 27) (v := ?_) rfl (by kernel_rfl) (by kernel_rfl) (by kernel_rfl) (fun _ _ _ h => h) (Or.inl ⟨by rfl, ?_⟩) (by assumption) ?_
              rotate_left
              · intro w hSw; (try dsimp only at hSw); (try go_split_ands); go_simp
                all_goals with_reducible rfl
              try simp only [Act.put, List.getElem_toArray, List.getElem_cons_zero, List.getElem_cons_succ, List.setIfInBounds_toArray, List.set_cons_zero, List.set_cons_succ]
              refine wpAnyH_take (i := 28) (v := ?_) rfl (by kernel_rfl) (by kernel_rfl) (by kernel_rfl) (fun _ _ _ h => h) (Or.inl ⟨by rfl, ?_⟩) (by assumption) ?_
              rotate_left
              · intro w hSw; (try dsimp only at hSw); (try go_split_ands); go_simp
                all_goals with_reducible rfl
              try simp only [Act.put, List.getElem_toArray, List.getElem_cons_zero, List.getElem_cons_succ, List.setIfInBounds_toArray, List.set_cons_zero, List.set_cons_succ]
              refine wpAnyH_take (i := 29) (v := ?_) rfl (by kernel_rfl) (by kernel_rfl) (by kernel_rfl) (fun _ _ _ h => h) (Or.inl ⟨by rfl, ?_⟩) (by assumption) ?_
              rotate_left
              · intro w hSw; (try dsimp only at hSw); (try go_split_ands); go_simp
                all_goals with_reducible rfl
              try simp only [Act.put, List.getElem_toArray, List.getElem_cons_zero, List.getElem_cons_succ, List.setIfInBounds_toArray, List.set_cons_zero, List.set_cons_succ]
              refine wpAnyH_take (i := 30) (v := ?_) rfl (by kernel_rfl) (by kernel_rfl) (by kernel_rfl) (fun _ _ _ h => h) (Or.inl ⟨by rfl, ?_⟩) (by assumption) ?_
              rotate_left
              · intro w hSw; (try dsimp only at hSw); (try go_split_ands); go_simp
                all_goals with_reducible rfl
              try simp only [Act.put, List.getElem_toArray, List.getElem_cons_zero, List.getElem_cons_succ, List.setIfInBounds_toArray, List.set_cons_zero, List.set_cons_succ]
              refine wpAnyH_take (i := 31) (v := ?_) rfl (by kernel_rfl) (by kernel_rfl) (by kernel_rfl) (fun _ _ _ h => h) (Or.inl ⟨by rfl, ?_⟩) (by assumption) ?_
              rotate_left
              · intro w hSw; (try dsimp only at hSw); (try go_split_ands); go_simp
                all_goals with_reducible rfl
              try simp only [Act.put, List.getElem_toArray, List.getElem_cons_zero, List.getElem_cons_succ, List.setIfInBounds_toArray, List.set_cons_zero, List.set_cons_succ]
              refine wpAnyH_take (i := 32) (v := ?_) rfl (by kernel_rfl) (by kernel_rfl) (by kernel_rfl) (fun _ _ _ h => h) (Or.inl ⟨by rfl, ?_⟩) (by assumption) ?_
              rotate_left
              · intro w hSw; (try dsimp only at hSw); (try go_split_ands); go_simp
                all_goals with_reducible rfl
              try simp only [Act.put, List.getElem_toArray, List.getElem_cons_zero, List.getElem_cons_succ, List.setIfInBounds_toArray, List.set_cons_zero, List.set_cons_succ]
              refine wpAnyH_take (i := 33) (v := ?_) rfl (by kernel_rfl) (by kernel_rfl) (by kernel_rfl) (fun _ _ _ h => h) (Or.inl ⟨by rfl, ?_⟩) (by assumption) ?_
              rotate_left
              · intro w hSw; (try dsimp only at hSw); (try go_split_ands); go_simp
                all_goals with_reducible rfl
              try simp only [Act.put, List.getElem_toArray, List.getElem_cons_zero, List.getElem_cons_succ, List.setIfInBounds_toArray, List.set_cons_zero, List.set_cons_succ]
              refine wpAnyH_take (i := 34) (v := ?_) rfl (by kernel_rfl) (by kernel_rfl) (by kernel_rfl) (fun _ _ _ h => h) (Or.inl ⟨by rfl, ?_⟩) (by assumption) ?_
              rotate_left
              · intro w hSw; (try dsimp only at hSw); (try go_split_ands); go_simp
                all_goals with_reducible rfl
              try simp only [Act.put, List.getElem_toArray, List.getElem_cons_zero, List.getElem_cons_succ, List.setIfInBounds_toArray, List.set_cons_zero, List.set_cons_succ]
              refine wpAnyH_take (i := 35) (v := ?_) rfl (by kernel_rfl) (by kernel_rfl) (by kernel_rfl) (fun _ _ _ h => h) (Or.inl ⟨by rfl, ?_⟩) (by assumption) ?_
              rotate_left
              · intro w hSw; (try dsimp only at hSw); (try go_split_ands); go_simp
                all_goals with_reducible rfl
              try simp only [Act.put, List.getElem_toArray, List.getElem_cons_zero, List.getElem_cons_succ, List.setIfInBounds_toArray, List.set_cons_zero, List.set_cons_succ]
              refine wpAnyH_take (i := 36) (v := ?_) rfl (by kernel_rfl) (by kernel_rfl) (by kernel_rfl) (fun _ _ _ h => h) (Or.inl ⟨by rfl, ?_⟩) (by assumption) ?_
              rotate_left
              · intro w hSw; (try dsimp only at hSw); (try go_split_ands); go_simp
                all_goals with_reducible rfl
              try simp only [Act.put, List.getElem_toArray, List.getElem_cons_zero, List.getElem_cons_succ, List.setIfInBounds_toArray, List.set_cons_zero, List.set_cons_succ]
              refine wpAnyH_take (i := 37) (v := ?_) rfl (by kernel_rfl) (by kernel_rfl) (by kernel_rfl) (fun _ _ _ h => h) (Or.inl ⟨by rfl, ?_⟩) (by assumption) ?_
              rotate_left
              · intro w hSw; (try dsimp only at hSw); (try go_split_ands); go_simp
                all_goals with_reducible rfl
              try simp only [Act.put, List.getElem_toArray, List.getElem_cons_zero, List.getElem_cons_succ, List.setIfInBounds_toArray, List.set_cons_zero, List.set_cons_succ]
              have hab : ¬ 9223372036854775807 < SA.size + SB.size := by omega
              refine wpAnyH_take (i := 38) (v := ?_) rfl (by kernel_rfl) (by kernel_rfl) (by kernel_rfl) (fun _ _ _ h => h) (Or.inl ⟨by rfl, ?_⟩) (by assumption) ?_
              rotate_left
              · intro w hSw; (try dsimp only at hSw); (try go_split_ands); go_simp
                all_goals with_reducible rfl
              try simp only [Act.put, List.getElem_toArray, List.getElem_cons_zero, List.getElem_cons_succ, List.setIfInBounds_toArray, List.set_cons_zero, List.set_cons_succ]
              clear hab
              refine wpAnyH_take (i := 39) (v := ?_) rfl (by kernel_rfl) (by kernel_rfl) (by kernel_rfl) (fun _ _ _ h => h) (Or.inl ⟨by rfl, ?_⟩) (by assumption) ?_
              rotate_left
              · intro w hSw; (try dsimp only at hSw); (try go_split_ands); go_simp
                all_goals with_reducible rfl
              try simp only [Act.put, List.getElem_toArray, List.getElem_cons_zero, List.getElem_cons_succ, List.setIfInBounds_toArray, List.set_cons_zero, List.set_cons_succ]
              refine wpAnyH_take (i := 40) (v := ?_) rfl (by kernel_rfl) (by kernel_rfl) (by kernel_rfl) (fun _ _ _ h => h) (Or.inl ⟨by rfl, ?_⟩) (by assumption) ?_
              rotate_left
              · intro w hSw; (try dsimp only at hSw); (try go_split_ands); go_simp
                all_goals with_reducible rfl
              try simp only [Act.put, List.getElem_toArray, List.getElem_cons_zero, List.getElem_cons_succ, List.setIfInBounds_toArray, List.set_cons_zero, List.set_cons_succ]
              refine wpAnyH_take (i := 41) (v := ?_) rfl (by kernel_rfl) (by kernel_rfl) (by kernel_rfl) (fun _ _ _ h => h) (Or.inl ⟨by rfl, ?_⟩) (by assumption) ?_
              rotate_left
              · intro w hSw; (try dsimp only at hSw); (try go_split_ands); go_simp
                all_goals with_reducible rfl
              try simp only [Act.put, List.getElem_toArray, List.getElem_cons_zero, List.getElem_cons_succ, List.setIfInBounds_toArray, List.set_cons_zero, List.set_cons_succ]
              refine wpAnyH_take (i := 42) (v := ?_) rfl (by kernel_rfl) (by kernel_rfl) (by kernel_rfl) (fun _ _ _ h => h) (Or.inl ⟨by rfl, ?_⟩) (by assumption) ?_
              rotate_left
              · intro w hSw; (try dsimp only at hSw); (try go_split_ands); go_simp
                all_goals with_reducible rfl
              try simp only [Act.put, List.getElem_toArray, List.getElem_cons_zero, List.getElem_cons_succ, List.setIfInBounds_toArray, List.set_cons_zero, List.set_cons_succ]
              refine wpAnyH_take (i := 43) (v := ?_) rfl (by kernel_rfl) (by kernel_rfl) (by kernel_rfl) (fun _ _ _ h => h) (Or.inl ⟨by rfl, ?_⟩) (by assumption) ?_
              rotate_left
              · intro w hSw; (try dsimp only at hSw); (try go_split_ands); go_simp
                all_goals with_reducible rfl
              try simp only [Act.put, List.getElem_toArray, List.getElem_cons_zero, List.getElem_cons_succ, List.setIfInBounds_toArray, List.set_cons_zero, List.set_cons_succ]
              refine wpAnyH_take (i := 44) (v := ?_) rfl (by kernel_rfl) (by kernel_rfl) (by kernel_rfl) (fun _ _ _ h => h) (Or.inl ⟨by rfl, ?_⟩) (by assumption) ?_
              rotate_left
              · intro w hSw; (try dsimp only at hSw); (try go_split_ands); go_simp
                all_goals with_reducible rfl
              try simp only [Act.put, List.getElem_toArray, List.getElem_cons_zero, List.getElem_cons_succ, List.setIfInBounds_toArray, List.set_cons_zero, List.set_cons_succ]
              refine wpAnyH_take (i := 45) (v := ?_) rfl (by kernel_rfl) (by kernel_rfl) (by kernel_rfl) (fun _ _ _ h => h) (Or.inl ⟨by rfl, ?_⟩) (by assumption) ?_
              rotate_left
              · intro w hSw; (try dsimp only at hSw); (try go_split_ands); go_simp
                all_goals with_reducible rfl
              try simp only [Act.put, List.getElem_toArray, List.getElem_cons_zero, List.getElem_cons_succ, List.setIfInBounds_toArray, List.set_cons_zero, List.set_cons_succ]
              refine wpAnyH_take (i := 46) (v := ?_) rfl (by kernel_rfl) (by kernel_rfl) (by kernel_rfl) (fun _ _ _ h => h) (Or.inl ⟨by rfl, ?_⟩) (by assumption) ?_
              rotate_left
              · intro w hSw; (try dsimp only at hSw); (try go_split_ands); go_simp
                all_goals with_reducible rfl
              try simp only [Act.put, List.getElem_toArray, List.getElem_cons_zero, List.getElem_cons_succ, List.setIfInBounds_toArray, List.set_cons_zero, List.set_cons_succ]
              refine wpAnyH_take (i := 47) (v := ?_) rfl (by kernel_rfl) (by kernel_rfl) (by kernel_rfl) (fun _ _ _ h => h) (Or.inl ⟨by rfl, ?_⟩) (by assumption) ?_
              rotate_left
              · intro w hSw; (try dsimp only at hSw); (try go_split_ands); go_simp
                all_goals with_reducible rfl
              try simp only [Act.put, List.getElem_toArray, List.getElem_cons_zero, List.getElem_cons_succ, List.setIfInBounds_toArray, List.set_cons_zero, List.set_cons_succ]
              refine wpAnyH_done (by kernel_rfl) ?_ _
              go_wp2_with fail
              go_ret
              exact ⟨rfl, hwB.trans (hz6.mono hwB.size)⟩
end Go.Proofs.Ytggbocimapdidaa
