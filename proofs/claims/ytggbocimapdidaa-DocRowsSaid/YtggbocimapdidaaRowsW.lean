/-
  The walk of DocRows: it gives true.
  Its conditions: the slices read as bytes; the number is a byte.
-/
import Derived.Test.YtggbocimapdidaaGen
import Derived.Test.YtggbocimapdidaaTwo
import Derived.Deep.RegionHeld3
import Derived.Deep.CutRange
namespace Go.Proofs.Ytggbocimapdidaa
open Go.RowKit

theorem IsBytes.later {w w' : World} {a : Option Addr} {n : Nat} {c : List Int} (h : IsBytes w (· < w.heap.size) a n c) (hb : Below w.heap.size w w') : IsBytes w' (· < w'.heap.size) a n c := by
  refine ⟨h.1, h.2.1, h.2.2.1, fun hne => ?_⟩
  obtain ⟨b, o, ha, hF, hc⟩ := h.2.2.2 hne
  exact ⟨b, o, ha, Nat.lt_of_lt_of_le hF hb.size, fun k x hk => (hb.cell (p := ⟨b, o + k, none⟩) hF).trans (hc k x hk)⟩
theorem right_m {d : Dc} {v : Value} {w : World} (h : Is w d v) : Calls Try.prog 18 #[v] w (Says (rightD d) w) := right_any d v w h
theorem words_m {d : Dc} {v : Value} {w : World} (h : Is w d v) (ht : totD d ≤ 1000000000) : Calls Try.prog 13 #[v] w fun e w' => e = .returned (.string ⟨(textsL (leavesD d)).toArray⟩) ∧ Below w.heap.size w w' := words_p d v w h (Nat.le_trans (texts_tot d) ht)
theorem same_m {d d' : Dc} {v v' : Value} {w : World} (h : Is w d v) (h' : Is w d' v') : Calls Try.prog 17 #[v, v'] w (Says (sameD d d') w) := same_any d d' v v' w h h'
mutual
theorem same_self : ∀ d : Dc, sameD d d = true
  | .mk k s n ks => by rw [sameD, sames_self ks]; simp
theorem sames_self : ∀ ks : Dcs, sameDs ks ks = true
  | .nil => by rw [sameDs]
  | .cons d r => by rw [sameDs, same_self d, sames_self r]; rfl
end
theorem row_ee : rowD [e0, e0] = .mk 0 ByteArray.empty 0 .nil := by
  rw [rowD]
  simp [e0, Dc.full, Dc.kind, rowOf]
theorem kind_0 {w : World} {F : Nat → Prop} {k n : Int} {s : ByteArray} {a : Option Addr} {m c : Nat} (h : IsDc w F (.mk 0 ByteArray.empty 0 .nil) (.agg #[.int .i64 k, .string s, .int .i64 n, .slice a m c])) : k = 0 := by
  obtain ⟨x, hx, -⟩ := IsDc.split h
  simp only [Value.agg.injEq, Array.mk.injEq, List.cons.injEq, Value.int.injEq, true_and] at hx
  exact hx.1
/-- The row of Empties, and one document behind them. -/
def EmptiesTo (B : Nat) (T : Nat) (d : Dc) (v : Value) (w : World) : Prop := IsSl w (· < w.heap.size) (List.replicate T e0 ++ [d]) v

set_option maxHeartbeats 8000000 in
set_option maxRecDepth 100000 in
theorem rows_any (a : Option Addr) (m cap : Nat) (c : List Int) (a' : Option Addr) (m' cap' : Nat) (c' : List Int) (n : Int) (hn : 0 ≤ n ∧ n ≤ 255) (w : World) (hI : IsBytes w (· < w.heap.size) a m c) (hI' : IsBytes w (· < w.heap.size) a' m' c') :
    Calls Try.prog 7 #[.slice a m cap, .slice a' m' cap', .int .u8 n] w (Says true w) := by
  have HG := hide (gen_any a m cap c w hI)
  have HI' := hide hI'
  clear hI hI'
  go_enter Try.func7, Try.ntmps7
  go_wp2_with fail
  refine (unhide HG).mono ?_
  rintro e w1 ⟨da, hka, hta, k1, s1, n1, a1, m1, c1, rfl, h1, hb1⟩
  obtain ⟨W2, hW2⟩ : ∃ W2, w1.alloc (.cells #[.int .i64 k1, .string s1, .int .i64 n1, .slice a1 m1 c1] 25) = W2 := ⟨_, rfl⟩
  have h2 : Is W2 da (.agg #[.int .i64 k1, .string s1, .int .i64 n1, .slice a1 m1 c1]) := hW2 ▸ h1.alloc _
  have hbk : Blk W2 w1.heap.size 25 #[.int .i64 k1, .string s1, .int .i64 n1, .slice a1 m1 c1] := hW2 ▸ Blk.new w1 25 _
  have hB2 : Below w.heap.size w W2 := hW2 ▸ hb1.alloc hb1.size _
  have HG' := hide (gen_any a' m' cap' c' W2 (HI'.out.later hB2))
  have A2 := hide h2
  have BA2 := hide hbk
  clear h1 h2 hbk hb1 HG HI'
  go_wp2_with fail
  refine (unhide HG').mono ?_
  rintro e w3 ⟨db, hkb, htb, k2, s2, n2, a2, m2, c2, rfl, h3, hb3⟩
  clear hW2
  obtain ⟨W4, hW4⟩ : ∃ W4, w3.alloc (.cells #[.int .i64 k2, .string s2, .int .i64 n2, .slice a2 m2 c2] 25) = W4 := ⟨_, rfl⟩
  have hb24 : Below W2.heap.size W2 W4 := hW4 ▸ hb3.alloc hb3.size _
  have h4 : Is W4 db (.agg #[.int .i64 k2, .string s2, .int .i64 n2, .slice a2 m2 c2]) := hW4 ▸ h3.alloc _
  have hbk : Blk W4 w3.heap.size 25 #[.int .i64 k2, .string s2, .int .i64 n2, .slice a2 m2 c2] := hW4 ▸ Blk.new w3 25 _
  have hB4 : Below w.heap.size w W4 := hB2.trans (hb24.mono hB2.size)
  have A4 := hide (A2.out.below hb24)
  have BA4 := hide (BA2.out.below hb24 BA2.out.lt)
  have B4 := hide h4
  have BB4 := hide hbk
  have HKA := hide (full_7 hka)
  have HKB := hide (full_7 hkb)
  clear h3 h4 hbk hb3 HG' A2 BA2 hka hkb
  obtain ⟨T, hT, hT4⟩ : ∃ T : Nat, n % 5 = T ∧ T ≤ 4 := ⟨(n % 5).toNat, by omega, by omega⟩
  go_wp2_with fail
  clear hW4
  go_loopw [9, 10] (fun l i wr => ∃ (q : Nat) (xs : List Value), i = .int .i64 q ∧ q ≤ T ∧ wr.ownsRow W4.heap.size 25 4 l q xs ∧ IsRow wr (fun _ => False) xs (List.replicate q e0) ∧ Below W4.heap.size W4 wr) (fun _ i _ => 5 - (intOf i).toNat)
  case atStart => exact ⟨0, [], by simp, Nat.zero_le _, World.ownsRow_nil _ _ _ _, IsRow.nil, Below.refl _ _⟩
  case round =>
    obtain ⟨q, xs, rfl, hq, hown, hrow, hb⟩ := hrel
    have hz := hb.size
    by_cases hlt : q < T
    · have hbz := Blk.new wr 25 #[.int .i64 0, .string ⟨#[]⟩, .int .i64 0, .slice none 0 0]
      obtain ⟨v5, w5, hr5, hown5, hg5, -⟩ := append_run (hown.alloc (.cells #[.int .i64 0, .string ⟨#[]⟩, .int .i64 0, .slice none 0 0] 25)) wr.heap.size 0 1 1 [.int .i64 0, .string ⟨#[]⟩, .int .i64 0, .slice none 0 0] rfl (fun j u hu => by rw [Nat.zero_add, hbz.cell j]; simpa using hu) (by simp [Value.oneCell']) (by omega) (by omega) (by simp; omega)
      have HO := hide hown5
      have hB5 : Below W4.heap.size W4 w5 := (hb.alloc hz _).grown hg5 (by simp; omega) (fun r hr => (hown.lt r hr).1)
      have HR := hide (hrow.append (IsRow.one (IsDc.leaf (cap := 0) (by omega) (by omega) (by decide) : IsDc wr (fun _ => False) e0 (.agg #[.int .i64 0, .string ⟨#[]⟩, .int .i64 0, .slice none 0 0]))))
      clear hbz hown5 hg5
      go_wp2_with (at_builtin; refine wpList_append_run rfl (.tmp 24) (.tmp 26) rfl rfl rfl rfl hr5 ?_)
      go_roundw
      case rel => exact ⟨q + 1, _, by go_num, by omega, HO.out, by rw [List.replicate_succ']; exact HR.out.keep (fun _ h => h.elim), hB5⟩
      case measure => simp [intOf]; omega
    · obtain rfl : q = T := by omega
      have hbA := BA4.out.below hb BA4.out.lt
      obtain ⟨p0, p1, p2, p3⟩ := hbA.four
      have hbz := Blk.new wr 25 #[.int .i64 k1, .string s1, .int .i64 n1, .slice a1 m1 c1]
      obtain ⟨v5, w5, hr5, hown5, hg5, -⟩ := append_run (hown.alloc (.cells #[.int .i64 k1, .string s1, .int .i64 n1, .slice a1 m1 c1] 25)) wr.heap.size 0 1 1 [.int .i64 k1, .string s1, .int .i64 n1, .slice a1 m1 c1] rfl (fun j u hu => by rw [Nat.zero_add, hbz.cell j]; simpa using hu) (by simp [Value.oneCell']) (by omega) (by omega) (by simp; omega)
      have hB5 : Below W4.heap.size W4 w5 := (hb.alloc hz _).grown hg5 (by simp; omega) (fun r hr => (hown.lt r hr).1)
      have hw5 : Below w.heap.size w w5 := hB4.trans (hB5.mono hB4.size)
      have hsl : IsSl w5 (· < w5.heap.size) (List.replicate q e0 ++ [da]) v5 := by
        refine IsSl.of_own (base := W4.heap.size) (by rw [List.length_append, List.length_replicate]; exact hown5) ((hrow.keep (F' := (· < w5.heap.size)) (w' := w5) (fun _ h => h.elim)).append (IsRow.one (A4.out.below hB5))) (fun g e => (hown5.lt g e).2)
      have HSL := hide hsl
      have HR5 := hide hr5
      have A5 := hide (A4.out.below hB5)
      have B5 := hide (B4.out.below hB5)
      have BA5 := hide (BA4.out.below hB5 BA4.out.lt)
      have BB5 := hide (BB4.out.below hB5 BB4.out.lt)
      clear hbz hown5 hg5 hsl hbA hown hrow
      go_upto_region 9 with (at_builtin; refine wpList_append_run rfl (.tmp 28) (.tmp 30) rfl rfl rfl rfl hr5 ?_)
      clear p0 p1 p2 p3 hr5
      obtain ⟨p0, p1, p2, p3⟩ := BA5.out.four
      obtain ⟨q0, q1, q2, q3⟩ := BB5.out.four
      go_cut [11] from 32 to 38 (fun v wx => MadeAt w5 (.mk 7 ByteArray.empty 0 (.cons (.mk 7 ByteArray.empty 0 (.cons da (.cons db .nil))) (.cons da .nil))) v wx)
      case first =>
        obtain ⟨wa, hwa⟩ : ∃ u, w5.drew = u := ⟨_, rfl⟩
        have hdwa : Below w5.heap.size w5 wa := hwa ▸ (Below.refl _ w5).drew
        have Awa := hide (A5.out.below hdwa)
        have Bwa := hide (B5.out.below hdwa)
        have hS : ∀ wn, Below wa.heap.size wa wn → Reads8 w1.heap.size w3.heap.size k1 s1 n1 a1 m1 c1 k2 s2 n2 a2 m2 c2 wn := fun wn h => by
          have h' : Below w5.heap.size w5 wn := hdwa.trans (h.mono hdwa.size)
          obtain ⟨e0, e1, e2, e3⟩ := (BA5.out.below h' BA5.out.lt).four
          obtain ⟨f0, f1, f2, f3⟩ := (BB5.out.below h' BB5.out.lt).four
          exact ⟨e0, e1, e2, e3, f0, f1, f2, f3⟩
        have HS := hide hS
        have hlA : w1.heap.size < wa.heap.size := Nat.lt_of_lt_of_le BA5.out.lt hdwa.size
        have hlB : w3.heap.size < wa.heap.size := Nat.lt_of_lt_of_le BB5.out.lt hdwa.size
        clear hS
        have hfix : ∀ {d : Dc} {v : Value} {wx wy : World}, MadeAt wx d v wy → Below w5.heap.size w5 wx → MadeAt w5 d v wy := fun h hb => by
          obtain ⟨g, k, s, n, a, m, c, h1, h2, h3, h4⟩ := h
          exact ⟨g, k, s, n, a, m, c, h1, h2, h3, hb.trans (h4.mono hb.size)⟩
        refine wp_region_held_drew (S := fun w' => w'.cell? ⟨w1.heap.size, 0, none⟩ = some (.int .i64 k1) ∧ w'.cell? ⟨w1.heap.size, 1, none⟩ = some (.string s1) ∧ w'.cell? ⟨w1.heap.size, 2, none⟩ = some (.int .i64 n1) ∧ w'.cell? ⟨w1.heap.size, 3, none⟩ = some (.slice a1 m1 c1) ∧ w'.cell? ⟨w3.heap.size, 0, none⟩ = some (.int .i64 k2) ∧ w'.cell? ⟨w3.heap.size, 1, none⟩ = some (.string s2) ∧ w'.cell? ⟨w3.heap.size, 2, none⟩ = some (.int .i64 n2) ∧ w'.cell? ⟨w3.heap.size, 3, none⟩ = some (.slice a2 m2 c2)) (by kernel_rfl) ?_ (fun hHeld => ?_)
        · exact ⟨p0, p1, p2, p3, q0, q1, q2, q3⟩
        rw [hwa] at hHeld ⊢
        refine wpAnyH_take (i := 0) (v := ?_) rfl (by kernel_rfl) (by kernel_rfl) (by kernel_rfl) (fun _ _ _ h => h) (Or.inl ⟨by rfl, ?_⟩) (by assumption) ?_
        rotate_left
        · intro w hSw; (try dsimp only at hSw); (try go_split_ands); go_simp
          all_goals with_reducible rfl
        try simp only [Act.put, List.getElem_toArray, List.getElem_cons_zero, List.getElem_cons_succ, List.setIfInBounds_toArray, List.set_cons_zero, List.set_cons_succ]
        refine wpAnyH_take (i := 1) (v := ?_) rfl (by kernel_rfl) (by kernel_rfl) (by kernel_rfl) (fun _ _ _ h => h) (Or.inl ⟨by rfl, ?_⟩) (by assumption) ?_
        rotate_left
        · intro w hSw; (try dsimp only at hSw); (try go_split_ands); go_simp
          all_goals with_reducible rfl
        try simp only [Act.put, List.getElem_toArray, List.getElem_cons_zero, List.getElem_cons_succ, List.setIfInBounds_toArray, List.set_cons_zero, List.set_cons_succ]
        refine wpAnyH_take (i := 4) (v := ?_) rfl (by kernel_rfl) (by kernel_rfl) (by kernel_rfl) (fun _ _ _ h => h) (Or.inl ⟨by rfl, ?_⟩) (by assumption) ?_
        rotate_left
        · intro w hSw; (try dsimp only at hSw); (try go_split_ands); go_simp
          all_goals with_reducible rfl
        try simp only [Act.put, List.getElem_toArray, List.getElem_cons_zero, List.getElem_cons_succ, List.setIfInBounds_toArray, List.set_cons_zero, List.set_cons_succ]
        refine wpAnyH_ready (rs := [2, 7]) (by kernel_rfl) (by simp) ?_
        refine AllReadyH.cons rfl (fun K6 hK6 => ?_) (AllReadyH.cons rfl (fun K6 hK6 => ?_) AllReadyH.nil)
        · skip
          obtain ⟨u1, hu1⟩ : ∃ u, wa.alloc (.cells #[.int .i64 k1, .string s1, .int .i64 n1, .slice a1 m1 c1, .int .i64 k2, .string s2, .int .i64 n2, .slice a2 m2 c2] 25) = u := ⟨_, rfl⟩
          have hs1 : Below wa.heap.size wa u1 := hu1 ▸ (Below.refl _ wa).alloc (Nat.le_refl _) _
          have SL1 := hide (isl_lit (IsRow.two Awa.out Bwa.out) (by simp [maxLen]))
          have HU1 := hide hu1
          clear hu1
          have hz1 : Below wa.heap.size wa u1 := (Below.refl wa.heap.size wa).trans (hs1.mono (Below.refl wa.heap.size wa).size)
          have A_1 := hide (Awa.out.below hs1)
          have B_1 := hide (Bwa.out.below hs1)
          go_simp
          rw [HU1.out]
          rw [HU1.out] at SL1
          refine hK6.out _ _ ?_ (fun hHeld => ?_)
          · exact HS.out _ hz1
          clear hK6 K6
          refine wpAnyH_ready (rs := [3, 7]) (by kernel_rfl) (by simp) ?_
          refine AllReadyH.cons rfl (fun K6 hK6 => ?_) (AllReadyH.cons rfl (fun K6 hK6 => ?_) AllReadyH.nil)
          · skip
            go_simp
            refine (row_n SL1.out (by simp) (by simp)).mono ?_
            rintro e y2 ⟨kR, sR, nR, aR, mR, cR, rfl, hR, hy2⟩
            rw [row_2 HKA.out HKB.out] at hR
            have R_0 := hide hR
            clear hR
            have hz2 : Below wa.heap.size wa y2 := hz1.trans (hy2.mono hz1.size)
            have A_2 := hide (A_1.out.below hy2)
            have B_2 := hide (B_1.out.below hy2)
            go_simp
            refine hK6.out _ _ ?_ (fun hHeld => ?_)
            · exact HS.out _ hz2
            clear hK6 K6
            refine wpAnyH_ready (rs := [5, 7]) (by kernel_rfl) (by simp) ?_
            refine AllReadyH.cons rfl (fun K6 hK6 => ?_) (AllReadyH.cons rfl (fun K6 hK6 => ?_) AllReadyH.nil)
            · skip
              obtain ⟨u3, hu3⟩ : ∃ u, y2.alloc (.cells #[.int .i64 kR, .string sR, .int .i64 nR, .slice aR mR cR, .int .i64 k1, .string s1, .int .i64 n1, .slice a1 m1 c1] 25) = u := ⟨_, rfl⟩
              have hs3 : Below y2.heap.size y2 u3 := hu3 ▸ (Below.refl _ y2).alloc (Nat.le_refl _) _
              have SL3 := hide (isl_lit (IsRow.two R_0.out A_2.out) (by simp [maxLen]))
              have HU3 := hide hu3
              clear hu3
              have hz3 : Below wa.heap.size wa u3 := hz2.trans (hs3.mono hz2.size)
              have A_3 := hide (A_2.out.below hs3)
              have B_3 := hide (B_2.out.below hs3)
              have R_3 := hide (R_0.out.below hs3)
              go_simp
              rw [HU3.out]
              rw [HU3.out] at SL3
              refine hK6.out _ _ ?_ (fun hHeld => ?_)
              · exact HS.out _ hz3
              clear hK6 K6
              refine wpAnyH_ready (rs := [6, 7]) (by kernel_rfl) (by simp) ?_
              refine AllReadyH.cons rfl (fun K6 hK6 => ?_) (AllReadyH.cons rfl (fun K6 hK6 => ?_) AllReadyH.nil)
              · skip
                go_simp
                refine (row_n SL3.out (by simp) (by simp)).mono ?_
                rintro e y4 ⟨kX, sX, nX, aX, mX, cX, rfl, hX, hy4⟩
                rw [row_2 rfl HKA.out] at hX
                have X_0 := hide hX
                clear hX
                have hz4 : Below wa.heap.size wa y4 := hz3.trans (hy4.mono hz3.size)
                have A_4 := hide (A_3.out.below hy4)
                have B_4 := hide (B_3.out.below hy4)
                have R_4 := hide (R_3.out.below hy4)
                go_simp
                refine hK6.out _ _ ?_ (fun hHeld => ?_)
                · exact HS.out _ hz4
                clear hK6 K6
                refine wpAnyH_ready (rs := [7]) (by kernel_rfl) (by simp) ?_
                refine AllReadyH.cons rfl (fun K6 hK6 => ?_) AllReadyH.nil
                obtain ⟨u5, hu5⟩ : ∃ u, y4.alloc (.cells #[.int .i64 0, .string ⟨#[]⟩, .int .i64 0, .slice none 0 0] 25) = u := ⟨_, rfl⟩
                have hs5 : Below y4.heap.size y4 u5 := hu5 ▸ (Below.refl _ y4).alloc (Nat.le_refl _) _
                have hA5 := hide (show Blk u5 y4.heap.size 25 #[.int .i64 0, .string ⟨#[]⟩, .int .i64 0, .slice none 0 0] from hu5 ▸ Blk.new y4 25 _)
                have hg5 := hA5.out.lt
                have hge := hz4.size
                have A_5 := hide (show IsX y4.heap.size u5 da (.agg #[.int .i64 k1, .string s1, .int .i64 n1, .slice a1 m1 c1]) from hu5 ▸ A_4.out.toX _)
                have B_5 := hide (show IsX y4.heap.size u5 db (.agg #[.int .i64 k2, .string s2, .int .i64 n2, .slice a2 m2 c2]) from hu5 ▸ B_4.out.toX _)
                have R_5 := hide (show IsX y4.heap.size u5 (.mk 7 ByteArray.empty 0 (.cons da (.cons db .nil))) (.agg #[.int .i64 kR, .string sR, .int .i64 nR, .slice aR mR cR]) from hu5 ▸ R_4.out.toX _)
                have X_5 := hide (show IsX y4.heap.size u5 (.mk 7 ByteArray.empty 0 (.cons (.mk 7 ByteArray.empty 0 (.cons da (.cons db .nil))) (.cons da .nil))) (.agg #[.int .i64 kX, .string sX, .int .i64 nX, .slice aX mX cX]) from hu5 ▸ X_0.out.toX _)
                have hz5 : Below wa.heap.size wa u5 := hz4.trans (hs5.mono hz4.size)
                have HU5 := hide hu5
                clear hu5
                go_simp
                rw [HU5.out]
                refine hK6.out _ _ ?_ (fun hHeld => ?_)
                · exact HS.out _ hz5
                clear hK6 K6
                refine wpAnyH_ready (rs := [8]) (by kernel_rfl) (by simp) ?_
                refine AllReadyH.cons rfl (fun K6 hK6 => ?_) AllReadyH.nil
                obtain ⟨t0, t1, t2, t3⟩ := hA5.out.four
                have tf := hA5.out.frozen
                have hput := hide (s8_put (g := y4.heap.size) (by omega) (by omega) (HS.out _ hz5) (.int .i64 kX) (.string sX) (.int .i64 nX) (.slice aX mX cX))
                go_simp
                refine hK6.out _ _ ?_ (fun hHeld => ?_)
                · exact hput.out
                clear hK6 K6 t0 t1 t2 t3 tf
                refine wpAnyH_done (by kernel_rfl) ?_ _
                go_wp2_with fail
                go_meet
                refine hfix (wx := wa) ?_ hdwa
                exact ⟨_, _, _, _, _, _, _, rfl, hA5.out.put4_ _ _ _ _, X_5.out.put, below_put4 hz5 (by omega) _ _ _ _⟩
              · skip
                obtain ⟨u4, hu4⟩ : ∃ u, u3.alloc (.cells #[.int .i64 0, .string ⟨#[]⟩, .int .i64 0, .slice none 0 0] 25) = u := ⟨_, rfl⟩
                have hs4 : Below u3.heap.size u3 u4 := hu4 ▸ (Below.refl _ u3).alloc (Nat.le_refl _) _
                have hA4 := hide (show Blk u4 u3.heap.size 25 #[.int .i64 0, .string ⟨#[]⟩, .int .i64 0, .slice none 0 0] from hu4 ▸ Blk.new u3 25 _)
                have hg4 := hA4.out.lt
                have hge := hz3.size
                have A_4 := hide (show IsX u3.heap.size u4 da (.agg #[.int .i64 k1, .string s1, .int .i64 n1, .slice a1 m1 c1]) from hu4 ▸ A_3.out.toX _)
                have B_4 := hide (show IsX u3.heap.size u4 db (.agg #[.int .i64 k2, .string s2, .int .i64 n2, .slice a2 m2 c2]) from hu4 ▸ B_3.out.toX _)
                have R_4 := hide (show IsX u3.heap.size u4 (.mk 7 ByteArray.empty 0 (.cons da (.cons db .nil))) (.agg #[.int .i64 kR, .string sR, .int .i64 nR, .slice aR mR cR]) from hu4 ▸ R_3.out.toX _)
                have SL4 := hide (slx SL3.out hs4)
                have hz4 : Below wa.heap.size wa u4 := hz3.trans (hs4.mono hz3.size)
                have HU4 := hide hu4
                clear hu4
                go_simp
                rw [HU4.out]
                refine hK6.out _ _ ?_ (fun hHeld => ?_)
                · exact HS.out _ hz4
                clear hK6 K6
                refine wpAnyH_ready (rs := [6]) (by kernel_rfl) (by simp) ?_
                refine AllReadyH.cons rfl (fun K6 hK6 => ?_) AllReadyH.nil
                go_simp
                refine (row_x hg4 SL4.out (by simp) (by simp)).mono ?_
                rintro e y5 ⟨kX, sX, nX, aX, mX, cX, rfl, hX, hy5⟩
                rw [row_2 rfl HKA.out] at hX
                have X_0 := hide hX
                clear hX
                have hz5 : Below wa.heap.size wa y5 := hz4.trans (hy5.mono hz4.size)
                have A_5 := hide (A_4.out.below hy5)
                have B_5 := hide (B_4.out.below hy5)
                have R_5 := hide (R_4.out.below hy5)
                have hA5 := hide (hA4.out.below hy5 hA4.out.lt)
                have hg5 : u3.heap.size < y5.heap.size := Nat.lt_of_lt_of_le hg4 hy5.size
                go_simp
                refine hK6.out _ _ ?_ (fun hHeld => ?_)
                · exact HS.out _ hz5
                clear hK6 K6
                refine wpAnyH_ready (rs := [8]) (by kernel_rfl) (by simp) ?_
                refine AllReadyH.cons rfl (fun K6 hK6 => ?_) AllReadyH.nil
                obtain ⟨t0, t1, t2, t3⟩ := hA5.out.four
                have tf := hA5.out.frozen
                have hput := hide (s8_put (g := u3.heap.size) (by omega) (by omega) (HS.out _ hz5) (.int .i64 kX) (.string sX) (.int .i64 nX) (.slice aX mX cX))
                go_simp
                refine hK6.out _ _ ?_ (fun hHeld => ?_)
                · exact hput.out
                clear hK6 K6 t0 t1 t2 t3 tf
                refine wpAnyH_done (by kernel_rfl) ?_ _
                go_wp2_with fail
                go_meet
                refine hfix (wx := wa) ?_ hdwa
                exact ⟨_, _, _, _, _, _, _, rfl, hA5.out.put4_ _ _ _ _, X_0.out.put, below_put4 hz5 (by omega) _ _ _ _⟩
            · skip
              obtain ⟨u3, hu3⟩ : ∃ u, y2.alloc (.cells #[.int .i64 0, .string ⟨#[]⟩, .int .i64 0, .slice none 0 0] 25) = u := ⟨_, rfl⟩
              have hs3 : Below y2.heap.size y2 u3 := hu3 ▸ (Below.refl _ y2).alloc (Nat.le_refl _) _
              have hA3 := hide (show Blk u3 y2.heap.size 25 #[.int .i64 0, .string ⟨#[]⟩, .int .i64 0, .slice none 0 0] from hu3 ▸ Blk.new y2 25 _)
              have hg3 := hA3.out.lt
              have hge := hz2.size
              have A_3 := hide (show IsX y2.heap.size u3 da (.agg #[.int .i64 k1, .string s1, .int .i64 n1, .slice a1 m1 c1]) from hu3 ▸ A_2.out.toX _)
              have B_3 := hide (show IsX y2.heap.size u3 db (.agg #[.int .i64 k2, .string s2, .int .i64 n2, .slice a2 m2 c2]) from hu3 ▸ B_2.out.toX _)
              have R_3 := hide (show IsX y2.heap.size u3 (.mk 7 ByteArray.empty 0 (.cons da (.cons db .nil))) (.agg #[.int .i64 kR, .string sR, .int .i64 nR, .slice aR mR cR]) from hu3 ▸ R_0.out.toX _)
              have hz3 : Below wa.heap.size wa u3 := hz2.trans (hs3.mono hz2.size)
              have HU3 := hide hu3
              clear hu3
              go_simp
              rw [HU3.out]
              refine hK6.out _ _ ?_ (fun hHeld => ?_)
              · exact HS.out _ hz3
              clear hK6 K6
              refine wpAnyH_ready (rs := [5]) (by kernel_rfl) (by simp) ?_
              refine AllReadyH.cons rfl (fun K6 hK6 => ?_) AllReadyH.nil
              obtain ⟨u4, hu4⟩ : ∃ u, u3.alloc (.cells #[.int .i64 kR, .string sR, .int .i64 nR, .slice aR mR cR, .int .i64 k1, .string s1, .int .i64 n1, .slice a1 m1 c1] 25) = u := ⟨_, rfl⟩
              have hs4 : Below u3.heap.size u3 u4 := hu4 ▸ (Below.refl _ u3).alloc (Nat.le_refl _) _
              have SL4 := hide (insl_lit (g := y2.heap.size) (IsRow.two R_3.out A_3.out) (by simp [maxLen]))
              have HU4 := hide hu4
              clear hu4
              have hz4 : Below wa.heap.size wa u4 := hz3.trans (hs4.mono hz3.size)
              have A_4 := hide (A_3.out.below hs4)
              have B_4 := hide (B_3.out.below hs4)
              have R_4 := hide (R_3.out.below hs4)
              have hA4 := hide (hA3.out.below hs4 hA3.out.lt)
              have hg4 : y2.heap.size < u4.heap.size := Nat.lt_of_lt_of_le hg3 hs4.size
              go_simp
              rw [HU4.out]
              rw [HU4.out] at SL4
              refine hK6.out _ _ ?_ (fun hHeld => ?_)
              · exact HS.out _ hz4
              clear hK6 K6
              refine wpAnyH_ready (rs := [6]) (by kernel_rfl) (by simp) ?_
              refine AllReadyH.cons rfl (fun K6 hK6 => ?_) AllReadyH.nil
              go_simp
              refine (row_x hg4 SL4.out (by simp) (by simp)).mono ?_
              rintro e y5 ⟨kX, sX, nX, aX, mX, cX, rfl, hX, hy5⟩
              rw [row_2 rfl HKA.out] at hX
              have X_0 := hide hX
              clear hX
              have hz5 : Below wa.heap.size wa y5 := hz4.trans (hy5.mono hz4.size)
              have A_5 := hide (A_4.out.below hy5)
              have B_5 := hide (B_4.out.below hy5)
              have R_5 := hide (R_4.out.below hy5)
              have hA5 := hide (hA4.out.below hy5 hA4.out.lt)
              have hg5 : y2.heap.size < y5.heap.size := Nat.lt_of_lt_of_le hg4 hy5.size
              go_simp
              refine hK6.out _ _ ?_ (fun hHeld => ?_)
              · exact HS.out _ hz5
              clear hK6 K6
              refine wpAnyH_ready (rs := [8]) (by kernel_rfl) (by simp) ?_
              refine AllReadyH.cons rfl (fun K6 hK6 => ?_) AllReadyH.nil
              obtain ⟨t0, t1, t2, t3⟩ := hA5.out.four
              have tf := hA5.out.frozen
              have hput := hide (s8_put (g := y2.heap.size) (by omega) (by omega) (HS.out _ hz5) (.int .i64 kX) (.string sX) (.int .i64 nX) (.slice aX mX cX))
              go_simp
              refine hK6.out _ _ ?_ (fun hHeld => ?_)
              · exact hput.out
              clear hK6 K6 t0 t1 t2 t3 tf
              refine wpAnyH_done (by kernel_rfl) ?_ _
              go_wp2_with fail
              go_meet
              refine hfix (wx := wa) ?_ hdwa
              exact ⟨_, _, _, _, _, _, _, rfl, hA5.out.put4_ _ _ _ _, X_0.out.put, below_put4 hz5 (by omega) _ _ _ _⟩
          · skip
            obtain ⟨u2, hu2⟩ : ∃ u, u1.alloc (.cells #[.int .i64 0, .string ⟨#[]⟩, .int .i64 0, .slice none 0 0] 25) = u := ⟨_, rfl⟩
            have hs2 : Below u1.heap.size u1 u2 := hu2 ▸ (Below.refl _ u1).alloc (Nat.le_refl _) _
            have hA2 := hide (show Blk u2 u1.heap.size 25 #[.int .i64 0, .string ⟨#[]⟩, .int .i64 0, .slice none 0 0] from hu2 ▸ Blk.new u1 25 _)
            have hg2 := hA2.out.lt
            have hge := hz1.size
            have A_2 := hide (show IsX u1.heap.size u2 da (.agg #[.int .i64 k1, .string s1, .int .i64 n1, .slice a1 m1 c1]) from hu2 ▸ A_1.out.toX _)
            have B_2 := hide (show IsX u1.heap.size u2 db (.agg #[.int .i64 k2, .string s2, .int .i64 n2, .slice a2 m2 c2]) from hu2 ▸ B_1.out.toX _)
            have SL2 := hide (slx SL1.out hs2)
            have hz2 : Below wa.heap.size wa u2 := hz1.trans (hs2.mono hz1.size)
            have HU2 := hide hu2
            clear hu2
            go_simp
            rw [HU2.out]
            refine hK6.out _ _ ?_ (fun hHeld => ?_)
            · exact HS.out _ hz2
            clear hK6 K6
            refine wpAnyH_ready (rs := [3]) (by kernel_rfl) (by simp) ?_
            refine AllReadyH.cons rfl (fun K6 hK6 => ?_) AllReadyH.nil
            go_simp
            refine (row_x hg2 SL2.out (by simp) (by simp)).mono ?_
            rintro e y3 ⟨kR, sR, nR, aR, mR, cR, rfl, hR, hy3⟩
            rw [row_2 HKA.out HKB.out] at hR
            have R_0 := hide hR
            clear hR
            have hz3 : Below wa.heap.size wa y3 := hz2.trans (hy3.mono hz2.size)
            have A_3 := hide (A_2.out.below hy3)
            have B_3 := hide (B_2.out.below hy3)
            have hA3 := hide (hA2.out.below hy3 hA2.out.lt)
            have hg3 : u1.heap.size < y3.heap.size := Nat.lt_of_lt_of_le hg2 hy3.size
            go_simp
            refine hK6.out _ _ ?_ (fun hHeld => ?_)
            · exact HS.out _ hz3
            clear hK6 K6
            refine wpAnyH_ready (rs := [5]) (by kernel_rfl) (by simp) ?_
            refine AllReadyH.cons rfl (fun K6 hK6 => ?_) AllReadyH.nil
            obtain ⟨u4, hu4⟩ : ∃ u, y3.alloc (.cells #[.int .i64 kR, .string sR, .int .i64 nR, .slice aR mR cR, .int .i64 k1, .string s1, .int .i64 n1, .slice a1 m1 c1] 25) = u := ⟨_, rfl⟩
            have hs4 : Below y3.heap.size y3 u4 := hu4 ▸ (Below.refl _ y3).alloc (Nat.le_refl _) _
            have SL4 := hide (insl_lit (g := u1.heap.size) (IsRow.two R_0.out A_3.out) (by simp [maxLen]))
            have HU4 := hide hu4
            clear hu4
            have hz4 : Below wa.heap.size wa u4 := hz3.trans (hs4.mono hz3.size)
            have A_4 := hide (A_3.out.below hs4)
            have B_4 := hide (B_3.out.below hs4)
            have R_4 := hide (R_0.out.below hs4)
            have hA4 := hide (hA3.out.below hs4 hA3.out.lt)
            have hg4 : u1.heap.size < u4.heap.size := Nat.lt_of_lt_of_le hg3 hs4.size
            go_simp
            rw [HU4.out]
            rw [HU4.out] at SL4
            refine hK6.out _ _ ?_ (fun hHeld => ?_)
            · exact HS.out _ hz4
            clear hK6 K6
            refine wpAnyH_ready (rs := [6]) (by kernel_rfl) (by simp) ?_
            refine AllReadyH.cons rfl (fun K6 hK6 => ?_) AllReadyH.nil
            go_simp
            refine (row_x hg4 SL4.out (by simp) (by simp)).mono ?_
            rintro e y5 ⟨kX, sX, nX, aX, mX, cX, rfl, hX, hy5⟩
            rw [row_2 rfl HKA.out] at hX
            have X_0 := hide hX
            clear hX
            have hz5 : Below wa.heap.size wa y5 := hz4.trans (hy5.mono hz4.size)
            have A_5 := hide (A_4.out.below hy5)
            have B_5 := hide (B_4.out.below hy5)
            have R_5 := hide (R_4.out.below hy5)
            have hA5 := hide (hA4.out.below hy5 hA4.out.lt)
            have hg5 : u1.heap.size < y5.heap.size := Nat.lt_of_lt_of_le hg4 hy5.size
            go_simp
            refine hK6.out _ _ ?_ (fun hHeld => ?_)
            · exact HS.out _ hz5
            clear hK6 K6
            refine wpAnyH_ready (rs := [8]) (by kernel_rfl) (by simp) ?_
            refine AllReadyH.cons rfl (fun K6 hK6 => ?_) AllReadyH.nil
            obtain ⟨t0, t1, t2, t3⟩ := hA5.out.four
            have tf := hA5.out.frozen
            have hput := hide (s8_put (g := u1.heap.size) (by omega) (by omega) (HS.out _ hz5) (.int .i64 kX) (.string sX) (.int .i64 nX) (.slice aX mX cX))
            go_simp
            refine hK6.out _ _ ?_ (fun hHeld => ?_)
            · exact hput.out
            clear hK6 K6 t0 t1 t2 t3 tf
            refine wpAnyH_done (by kernel_rfl) ?_ _
            go_wp2_with fail
            go_meet
            refine hfix (wx := wa) ?_ hdwa
            exact ⟨_, _, _, _, _, _, _, rfl, hA5.out.put4_ _ _ _ _, X_0.out.put, below_put4 hz5 (by omega) _ _ _ _⟩
        · skip
          obtain ⟨u1, hu1⟩ : ∃ u, wa.alloc (.cells #[.int .i64 0, .string ⟨#[]⟩, .int .i64 0, .slice none 0 0] 25) = u := ⟨_, rfl⟩
          have hs1 : Below wa.heap.size wa u1 := hu1 ▸ (Below.refl _ wa).alloc (Nat.le_refl _) _
          have hA1 := hide (show Blk u1 wa.heap.size 25 #[.int .i64 0, .string ⟨#[]⟩, .int .i64 0, .slice none 0 0] from hu1 ▸ Blk.new wa 25 _)
          have hg1 := hA1.out.lt
          have hge := (Below.refl wa.heap.size wa).size
          have A_1 := hide (show IsX wa.heap.size u1 da (.agg #[.int .i64 k1, .string s1, .int .i64 n1, .slice a1 m1 c1]) from hu1 ▸ Awa.out.toX _)
          have B_1 := hide (show IsX wa.heap.size u1 db (.agg #[.int .i64 k2, .string s2, .int .i64 n2, .slice a2 m2 c2]) from hu1 ▸ Bwa.out.toX _)
          have hz1 : Below wa.heap.size wa u1 := (Below.refl wa.heap.size wa).trans (hs1.mono (Below.refl wa.heap.size wa).size)
          have HU1 := hide hu1
          clear hu1
          go_simp
          rw [HU1.out]
          refine hK6.out _ _ ?_ (fun hHeld => ?_)
          · exact HS.out _ hz1
          clear hK6 K6
          refine wpAnyH_ready (rs := [2]) (by kernel_rfl) (by simp) ?_
          refine AllReadyH.cons rfl (fun K6 hK6 => ?_) AllReadyH.nil
          obtain ⟨u2, hu2⟩ : ∃ u, u1.alloc (.cells #[.int .i64 k1, .string s1, .int .i64 n1, .slice a1 m1 c1, .int .i64 k2, .string s2, .int .i64 n2, .slice a2 m2 c2] 25) = u := ⟨_, rfl⟩
          have hs2 : Below u1.heap.size u1 u2 := hu2 ▸ (Below.refl _ u1).alloc (Nat.le_refl _) _
          have SL2 := hide (insl_lit (g := wa.heap.size) (IsRow.two A_1.out B_1.out) (by simp [maxLen]))
          have HU2 := hide hu2
          clear hu2
          have hz2 : Below wa.heap.size wa u2 := hz1.trans (hs2.mono hz1.size)
          have A_2 := hide (A_1.out.below hs2)
          have B_2 := hide (B_1.out.below hs2)
          have hA2 := hide (hA1.out.below hs2 hA1.out.lt)
          have hg2 : wa.heap.size < u2.heap.size := Nat.lt_of_lt_of_le hg1 hs2.size
          go_simp
          rw [HU2.out]
          rw [HU2.out] at SL2
          refine hK6.out _ _ ?_ (fun hHeld => ?_)
          · exact HS.out _ hz2
          clear hK6 K6
          refine wpAnyH_ready (rs := [3]) (by kernel_rfl) (by simp) ?_
          refine AllReadyH.cons rfl (fun K6 hK6 => ?_) AllReadyH.nil
          go_simp
          refine (row_x hg2 SL2.out (by simp) (by simp)).mono ?_
          rintro e y3 ⟨kR, sR, nR, aR, mR, cR, rfl, hR, hy3⟩
          rw [row_2 HKA.out HKB.out] at hR
          have R_0 := hide hR
          clear hR
          have hz3 : Below wa.heap.size wa y3 := hz2.trans (hy3.mono hz2.size)
          have A_3 := hide (A_2.out.below hy3)
          have B_3 := hide (B_2.out.below hy3)
          have hA3 := hide (hA2.out.below hy3 hA2.out.lt)
          have hg3 : wa.heap.size < y3.heap.size := Nat.lt_of_lt_of_le hg2 hy3.size
          go_simp
          refine hK6.out _ _ ?_ (fun hHeld => ?_)
          · exact HS.out _ hz3
          clear hK6 K6
          refine wpAnyH_ready (rs := [5]) (by kernel_rfl) (by simp) ?_
          refine AllReadyH.cons rfl (fun K6 hK6 => ?_) AllReadyH.nil
          obtain ⟨u4, hu4⟩ : ∃ u, y3.alloc (.cells #[.int .i64 kR, .string sR, .int .i64 nR, .slice aR mR cR, .int .i64 k1, .string s1, .int .i64 n1, .slice a1 m1 c1] 25) = u := ⟨_, rfl⟩
          have hs4 : Below y3.heap.size y3 u4 := hu4 ▸ (Below.refl _ y3).alloc (Nat.le_refl _) _
          have SL4 := hide (insl_lit (g := wa.heap.size) (IsRow.two R_0.out A_3.out) (by simp [maxLen]))
          have HU4 := hide hu4
          clear hu4
          have hz4 : Below wa.heap.size wa u4 := hz3.trans (hs4.mono hz3.size)
          have A_4 := hide (A_3.out.below hs4)
          have B_4 := hide (B_3.out.below hs4)
          have R_4 := hide (R_0.out.below hs4)
          have hA4 := hide (hA3.out.below hs4 hA3.out.lt)
          have hg4 : wa.heap.size < u4.heap.size := Nat.lt_of_lt_of_le hg3 hs4.size
          go_simp
          rw [HU4.out]
          rw [HU4.out] at SL4
          refine hK6.out _ _ ?_ (fun hHeld => ?_)
          · exact HS.out _ hz4
          clear hK6 K6
          refine wpAnyH_ready (rs := [6]) (by kernel_rfl) (by simp) ?_
          refine AllReadyH.cons rfl (fun K6 hK6 => ?_) AllReadyH.nil
          go_simp
          refine (row_x hg4 SL4.out (by simp) (by simp)).mono ?_
          rintro e y5 ⟨kX, sX, nX, aX, mX, cX, rfl, hX, hy5⟩
          rw [row_2 rfl HKA.out] at hX
          have X_0 := hide hX
          clear hX
          have hz5 : Below wa.heap.size wa y5 := hz4.trans (hy5.mono hz4.size)
          have A_5 := hide (A_4.out.below hy5)
          have B_5 := hide (B_4.out.below hy5)
          have R_5 := hide (R_4.out.below hy5)
          have hA5 := hide (hA4.out.below hy5 hA4.out.lt)
          have hg5 : wa.heap.size < y5.heap.size := Nat.lt_of_lt_of_le hg4 hy5.size
          go_simp
          refine hK6.out _ _ ?_ (fun hHeld => ?_)
          · exact HS.out _ hz5
          clear hK6 K6
          refine wpAnyH_ready (rs := [8]) (by kernel_rfl) (by simp) ?_
          refine AllReadyH.cons rfl (fun K6 hK6 => ?_) AllReadyH.nil
          obtain ⟨t0, t1, t2, t3⟩ := hA5.out.four
          have tf := hA5.out.frozen
          have hput := hide (s8_put (g := wa.heap.size) (by omega) (by omega) (HS.out _ hz5) (.int .i64 kX) (.string sX) (.int .i64 nX) (.slice aX mX cX))
          go_simp
          refine hK6.out _ _ ?_ (fun hHeld => ?_)
          · exact hput.out
          clear hK6 K6 t0 t1 t2 t3 tf
          refine wpAnyH_done (by kernel_rfl) ?_ _
          go_wp2_with fail
          go_meet
          refine hfix (wx := wa) ?_ hdwa
          exact ⟨_, _, _, _, _, _, _, rfl, hA5.out.put4_ _ _ _ _, X_0.out.put, below_put4 hz5 (by omega) _ _ _ _⟩
      case rest =>
        obtain ⟨g11, kx, sx, nx, ax, mx, cx, rfl, hbx, hx, hb6⟩ : MadeAt w5 (.mk 7 ByteArray.empty 0 (.cons (.mk 7 ByteArray.empty 0 (.cons da (.cons db .nil))) (.cons da .nil))) u11 wc := hcut
        obtain ⟨w6, rfl⟩ : ∃ w6 : World, w6 = wc := ⟨_, rfl⟩
        have hw6 : Below w.heap.size w w6 := hw5.trans (hb6.mono hw5.size)
        have A6 := hide (A5.out.below hb6)
        have B6 := hide (B5.out.below hb6)
        have BA6 := hide (BA5.out.below hb6 BA5.out.lt)
        have BB6 := hide (BB5.out.below hb6 BB5.out.lt)
        have X6 := hide hx
        have BX6 := hide hbx
        have HSL6 := hide (HSL.out.keep (F' := (· < w6.heap.size)) (w' := w6) (fun b h => ⟨Nat.lt_of_lt_of_le h hb6.size, hb6.block b h⟩))
        clear p0 p1 p2 p3 q0 q1 q2 q3 hx hbx A5 B5 BA5 BB5 HSL
        go_upto_region 10 with fail
        obtain ⟨p0, p1, p2, p3⟩ := BA6.out.four
        obtain ⟨q0, q1, q2, q3⟩ := BB6.out.four
        go_cut [12] from 39 to 45 (fun v wx => MadeAt w6 (.mk 7 ByteArray.empty 0 (.cons da (.cons (.mk 7 ByteArray.empty 0 (.cons db (.cons da .nil))) .nil))) v wx)
        case first =>
          obtain ⟨wb, hwb⟩ : ∃ u, w6.drew = u := ⟨_, rfl⟩
          have hdwb : Below w6.heap.size w6 wb := hwb ▸ (Below.refl _ w6).drew
          have Awb := hide (A6.out.below hdwb)
          have Bwb := hide (B6.out.below hdwb)
          have hS : ∀ wn, Below wb.heap.size wb wn → Reads8 w1.heap.size w3.heap.size k1 s1 n1 a1 m1 c1 k2 s2 n2 a2 m2 c2 wn := fun wn h => by
            have h' : Below w6.heap.size w6 wn := hdwb.trans (h.mono hdwb.size)
            obtain ⟨e0, e1, e2, e3⟩ := (BA6.out.below h' BA6.out.lt).four
            obtain ⟨f0, f1, f2, f3⟩ := (BB6.out.below h' BB6.out.lt).four
            exact ⟨e0, e1, e2, e3, f0, f1, f2, f3⟩
          have HS := hide hS
          have hlA : w1.heap.size < wb.heap.size := Nat.lt_of_lt_of_le BA6.out.lt hdwb.size
          have hlB : w3.heap.size < wb.heap.size := Nat.lt_of_lt_of_le BB6.out.lt hdwb.size
          clear hS
          have hfix : ∀ {d : Dc} {v : Value} {wx wy : World}, MadeAt wx d v wy → Below w6.heap.size w6 wx → MadeAt w6 d v wy := fun h hb => by
            obtain ⟨g, k, s, n, a, m, c, h1, h2, h3, h4⟩ := h
            exact ⟨g, k, s, n, a, m, c, h1, h2, h3, hb.trans (h4.mono hb.size)⟩
          refine wp_region_held_drew (S := fun w' => w'.cell? ⟨w1.heap.size, 0, none⟩ = some (.int .i64 k1) ∧ w'.cell? ⟨w1.heap.size, 1, none⟩ = some (.string s1) ∧ w'.cell? ⟨w1.heap.size, 2, none⟩ = some (.int .i64 n1) ∧ w'.cell? ⟨w1.heap.size, 3, none⟩ = some (.slice a1 m1 c1) ∧ w'.cell? ⟨w3.heap.size, 0, none⟩ = some (.int .i64 k2) ∧ w'.cell? ⟨w3.heap.size, 1, none⟩ = some (.string s2) ∧ w'.cell? ⟨w3.heap.size, 2, none⟩ = some (.int .i64 n2) ∧ w'.cell? ⟨w3.heap.size, 3, none⟩ = some (.slice a2 m2 c2)) (by kernel_rfl) ?_ (fun hHeld => ?_)
          · exact ⟨p0, p1, p2, p3, q0, q1, q2, q3⟩
          rw [hwb] at hHeld ⊢
          refine wpAnyH_take (i := 0) (v := ?_) rfl (by kernel_rfl) (by kernel_rfl) (by kernel_rfl) (fun _ _ _ h => h) (Or.inl ⟨by rfl, ?_⟩) (by assumption) ?_
          rotate_left
          · intro w hSw; (try dsimp only at hSw); (try go_split_ands); go_simp
            all_goals with_reducible rfl
          try simp only [Act.put, List.getElem_toArray, List.getElem_cons_zero, List.getElem_cons_succ, List.setIfInBounds_toArray, List.set_cons_zero, List.set_cons_succ]
          refine wpAnyH_take (i := 1) (v := ?_) rfl (by kernel_rfl) (by kernel_rfl) (by kernel_rfl) (fun _ _ _ h => h) (Or.inl ⟨by rfl, ?_⟩) (by assumption) ?_
          rotate_left
          · intro w hSw; (try dsimp only at hSw); (try go_split_ands); go_simp
            all_goals with_reducible rfl
          try simp only [Act.put, List.getElem_toArray, List.getElem_cons_zero, List.getElem_cons_succ, List.setIfInBounds_toArray, List.set_cons_zero, List.set_cons_succ]
          refine wpAnyH_take (i := 2) (v := ?_) rfl (by kernel_rfl) (by kernel_rfl) (by kernel_rfl) (fun _ _ _ h => h) (Or.inl ⟨by rfl, ?_⟩) (by assumption) ?_
          rotate_left
          · intro w hSw; (try dsimp only at hSw); (try go_split_ands); go_simp
            all_goals with_reducible rfl
          try simp only [Act.put, List.getElem_toArray, List.getElem_cons_zero, List.getElem_cons_succ, List.setIfInBounds_toArray, List.set_cons_zero, List.set_cons_succ]
          refine wpAnyH_ready (rs := [3, 7]) (by kernel_rfl) (by simp) ?_
          refine AllReadyH.cons rfl (fun K6 hK6 => ?_) (AllReadyH.cons rfl (fun K6 hK6 => ?_) AllReadyH.nil)
          · skip
            obtain ⟨u1, hu1⟩ : ∃ u, wb.alloc (.cells #[.int .i64 k2, .string s2, .int .i64 n2, .slice a2 m2 c2, .int .i64 k1, .string s1, .int .i64 n1, .slice a1 m1 c1] 25) = u := ⟨_, rfl⟩
            have hs1 : Below wb.heap.size wb u1 := hu1 ▸ (Below.refl _ wb).alloc (Nat.le_refl _) _
            have SL1 := hide (isl_lit (IsRow.two Bwb.out Awb.out) (by simp [maxLen]))
            have HU1 := hide hu1
            clear hu1
            have hz1 : Below wb.heap.size wb u1 := (Below.refl wb.heap.size wb).trans (hs1.mono (Below.refl wb.heap.size wb).size)
            have A_1 := hide (Awb.out.below hs1)
            have B_1 := hide (Bwb.out.below hs1)
            go_simp
            rw [HU1.out]
            rw [HU1.out] at SL1
            refine hK6.out _ _ ?_ (fun hHeld => ?_)
            · exact HS.out _ hz1
            clear hK6 K6
            refine wpAnyH_ready (rs := [4, 7]) (by kernel_rfl) (by simp) ?_
            refine AllReadyH.cons rfl (fun K6 hK6 => ?_) (AllReadyH.cons rfl (fun K6 hK6 => ?_) AllReadyH.nil)
            · skip
              go_simp
              refine (row_n SL1.out (by simp) (by simp)).mono ?_
              rintro e y2 ⟨kR, sR, nR, aR, mR, cR, rfl, hR, hy2⟩
              rw [row_2 HKB.out HKA.out] at hR
              have R_0 := hide hR
              clear hR
              have hz2 : Below wb.heap.size wb y2 := hz1.trans (hy2.mono hz1.size)
              have A_2 := hide (A_1.out.below hy2)
              have B_2 := hide (B_1.out.below hy2)
              go_simp
              refine hK6.out _ _ ?_ (fun hHeld => ?_)
              · exact HS.out _ hz2
              clear hK6 K6
              refine wpAnyH_ready (rs := [5, 7]) (by kernel_rfl) (by simp) ?_
              refine AllReadyH.cons rfl (fun K6 hK6 => ?_) (AllReadyH.cons rfl (fun K6 hK6 => ?_) AllReadyH.nil)
              · skip
                obtain ⟨u3, hu3⟩ : ∃ u, y2.alloc (.cells #[.int .i64 k1, .string s1, .int .i64 n1, .slice a1 m1 c1, .int .i64 kR, .string sR, .int .i64 nR, .slice aR mR cR] 25) = u := ⟨_, rfl⟩
                have hs3 : Below y2.heap.size y2 u3 := hu3 ▸ (Below.refl _ y2).alloc (Nat.le_refl _) _
                have SL3 := hide (isl_lit (IsRow.two A_2.out R_0.out) (by simp [maxLen]))
                have HU3 := hide hu3
                clear hu3
                have hz3 : Below wb.heap.size wb u3 := hz2.trans (hs3.mono hz2.size)
                have A_3 := hide (A_2.out.below hs3)
                have B_3 := hide (B_2.out.below hs3)
                have R_3 := hide (R_0.out.below hs3)
                go_simp
                rw [HU3.out]
                rw [HU3.out] at SL3
                refine hK6.out _ _ ?_ (fun hHeld => ?_)
                · exact HS.out _ hz3
                clear hK6 K6
                refine wpAnyH_ready (rs := [6, 7]) (by kernel_rfl) (by simp) ?_
                refine AllReadyH.cons rfl (fun K6 hK6 => ?_) (AllReadyH.cons rfl (fun K6 hK6 => ?_) AllReadyH.nil)
                · skip
                  go_simp
                  refine (row_n SL3.out (by simp) (by simp)).mono ?_
                  rintro e y4 ⟨kY, sY, nY, aY, mY, cY, rfl, hY, hy4⟩
                  rw [row_2 HKA.out rfl] at hY
                  have Y_0 := hide hY
                  clear hY
                  have hz4 : Below wb.heap.size wb y4 := hz3.trans (hy4.mono hz3.size)
                  have A_4 := hide (A_3.out.below hy4)
                  have B_4 := hide (B_3.out.below hy4)
                  have R_4 := hide (R_3.out.below hy4)
                  go_simp
                  refine hK6.out _ _ ?_ (fun hHeld => ?_)
                  · exact HS.out _ hz4
                  clear hK6 K6
                  refine wpAnyH_ready (rs := [7]) (by kernel_rfl) (by simp) ?_
                  refine AllReadyH.cons rfl (fun K6 hK6 => ?_) AllReadyH.nil
                  obtain ⟨u5, hu5⟩ : ∃ u, y4.alloc (.cells #[.int .i64 0, .string ⟨#[]⟩, .int .i64 0, .slice none 0 0] 25) = u := ⟨_, rfl⟩
                  have hs5 : Below y4.heap.size y4 u5 := hu5 ▸ (Below.refl _ y4).alloc (Nat.le_refl _) _
                  have hA5 := hide (show Blk u5 y4.heap.size 25 #[.int .i64 0, .string ⟨#[]⟩, .int .i64 0, .slice none 0 0] from hu5 ▸ Blk.new y4 25 _)
                  have hg5 := hA5.out.lt
                  have hge := hz4.size
                  have A_5 := hide (show IsX y4.heap.size u5 da (.agg #[.int .i64 k1, .string s1, .int .i64 n1, .slice a1 m1 c1]) from hu5 ▸ A_4.out.toX _)
                  have B_5 := hide (show IsX y4.heap.size u5 db (.agg #[.int .i64 k2, .string s2, .int .i64 n2, .slice a2 m2 c2]) from hu5 ▸ B_4.out.toX _)
                  have R_5 := hide (show IsX y4.heap.size u5 (.mk 7 ByteArray.empty 0 (.cons db (.cons da .nil))) (.agg #[.int .i64 kR, .string sR, .int .i64 nR, .slice aR mR cR]) from hu5 ▸ R_4.out.toX _)
                  have Y_5 := hide (show IsX y4.heap.size u5 (.mk 7 ByteArray.empty 0 (.cons da (.cons (.mk 7 ByteArray.empty 0 (.cons db (.cons da .nil))) .nil))) (.agg #[.int .i64 kY, .string sY, .int .i64 nY, .slice aY mY cY]) from hu5 ▸ Y_0.out.toX _)
                  have hz5 : Below wb.heap.size wb u5 := hz4.trans (hs5.mono hz4.size)
                  have HU5 := hide hu5
                  clear hu5
                  go_simp
                  rw [HU5.out]
                  refine hK6.out _ _ ?_ (fun hHeld => ?_)
                  · exact HS.out _ hz5
                  clear hK6 K6
                  refine wpAnyH_ready (rs := [8]) (by kernel_rfl) (by simp) ?_
                  refine AllReadyH.cons rfl (fun K6 hK6 => ?_) AllReadyH.nil
                  obtain ⟨t0, t1, t2, t3⟩ := hA5.out.four
                  have tf := hA5.out.frozen
                  have hput := hide (s8_put (g := y4.heap.size) (by omega) (by omega) (HS.out _ hz5) (.int .i64 kY) (.string sY) (.int .i64 nY) (.slice aY mY cY))
                  go_simp
                  refine hK6.out _ _ ?_ (fun hHeld => ?_)
                  · exact hput.out
                  clear hK6 K6 t0 t1 t2 t3 tf
                  refine wpAnyH_done (by kernel_rfl) ?_ _
                  go_wp2_with fail
                  go_meet
                  refine hfix (wx := wb) ?_ hdwb
                  exact ⟨_, _, _, _, _, _, _, rfl, hA5.out.put4_ _ _ _ _, Y_5.out.put, below_put4 hz5 (by omega) _ _ _ _⟩
                · skip
                  obtain ⟨u4, hu4⟩ : ∃ u, u3.alloc (.cells #[.int .i64 0, .string ⟨#[]⟩, .int .i64 0, .slice none 0 0] 25) = u := ⟨_, rfl⟩
                  have hs4 : Below u3.heap.size u3 u4 := hu4 ▸ (Below.refl _ u3).alloc (Nat.le_refl _) _
                  have hA4 := hide (show Blk u4 u3.heap.size 25 #[.int .i64 0, .string ⟨#[]⟩, .int .i64 0, .slice none 0 0] from hu4 ▸ Blk.new u3 25 _)
                  have hg4 := hA4.out.lt
                  have hge := hz3.size
                  have A_4 := hide (show IsX u3.heap.size u4 da (.agg #[.int .i64 k1, .string s1, .int .i64 n1, .slice a1 m1 c1]) from hu4 ▸ A_3.out.toX _)
                  have B_4 := hide (show IsX u3.heap.size u4 db (.agg #[.int .i64 k2, .string s2, .int .i64 n2, .slice a2 m2 c2]) from hu4 ▸ B_3.out.toX _)
                  have R_4 := hide (show IsX u3.heap.size u4 (.mk 7 ByteArray.empty 0 (.cons db (.cons da .nil))) (.agg #[.int .i64 kR, .string sR, .int .i64 nR, .slice aR mR cR]) from hu4 ▸ R_3.out.toX _)
                  have SL4 := hide (slx SL3.out hs4)
                  have hz4 : Below wb.heap.size wb u4 := hz3.trans (hs4.mono hz3.size)
                  have HU4 := hide hu4
                  clear hu4
                  go_simp
                  rw [HU4.out]
                  refine hK6.out _ _ ?_ (fun hHeld => ?_)
                  · exact HS.out _ hz4
                  clear hK6 K6
                  refine wpAnyH_ready (rs := [6]) (by kernel_rfl) (by simp) ?_
                  refine AllReadyH.cons rfl (fun K6 hK6 => ?_) AllReadyH.nil
                  go_simp
                  refine (row_x hg4 SL4.out (by simp) (by simp)).mono ?_
                  rintro e y5 ⟨kY, sY, nY, aY, mY, cY, rfl, hY, hy5⟩
                  rw [row_2 HKA.out rfl] at hY
                  have Y_0 := hide hY
                  clear hY
                  have hz5 : Below wb.heap.size wb y5 := hz4.trans (hy5.mono hz4.size)
                  have A_5 := hide (A_4.out.below hy5)
                  have B_5 := hide (B_4.out.below hy5)
                  have R_5 := hide (R_4.out.below hy5)
                  have hA5 := hide (hA4.out.below hy5 hA4.out.lt)
                  have hg5 : u3.heap.size < y5.heap.size := Nat.lt_of_lt_of_le hg4 hy5.size
                  go_simp
                  refine hK6.out _ _ ?_ (fun hHeld => ?_)
                  · exact HS.out _ hz5
                  clear hK6 K6
                  refine wpAnyH_ready (rs := [8]) (by kernel_rfl) (by simp) ?_
                  refine AllReadyH.cons rfl (fun K6 hK6 => ?_) AllReadyH.nil
                  obtain ⟨t0, t1, t2, t3⟩ := hA5.out.four
                  have tf := hA5.out.frozen
                  have hput := hide (s8_put (g := u3.heap.size) (by omega) (by omega) (HS.out _ hz5) (.int .i64 kY) (.string sY) (.int .i64 nY) (.slice aY mY cY))
                  go_simp
                  refine hK6.out _ _ ?_ (fun hHeld => ?_)
                  · exact hput.out
                  clear hK6 K6 t0 t1 t2 t3 tf
                  refine wpAnyH_done (by kernel_rfl) ?_ _
                  go_wp2_with fail
                  go_meet
                  refine hfix (wx := wb) ?_ hdwb
                  exact ⟨_, _, _, _, _, _, _, rfl, hA5.out.put4_ _ _ _ _, Y_0.out.put, below_put4 hz5 (by omega) _ _ _ _⟩
              · skip
                obtain ⟨u3, hu3⟩ : ∃ u, y2.alloc (.cells #[.int .i64 0, .string ⟨#[]⟩, .int .i64 0, .slice none 0 0] 25) = u := ⟨_, rfl⟩
                have hs3 : Below y2.heap.size y2 u3 := hu3 ▸ (Below.refl _ y2).alloc (Nat.le_refl _) _
                have hA3 := hide (show Blk u3 y2.heap.size 25 #[.int .i64 0, .string ⟨#[]⟩, .int .i64 0, .slice none 0 0] from hu3 ▸ Blk.new y2 25 _)
                have hg3 := hA3.out.lt
                have hge := hz2.size
                have A_3 := hide (show IsX y2.heap.size u3 da (.agg #[.int .i64 k1, .string s1, .int .i64 n1, .slice a1 m1 c1]) from hu3 ▸ A_2.out.toX _)
                have B_3 := hide (show IsX y2.heap.size u3 db (.agg #[.int .i64 k2, .string s2, .int .i64 n2, .slice a2 m2 c2]) from hu3 ▸ B_2.out.toX _)
                have R_3 := hide (show IsX y2.heap.size u3 (.mk 7 ByteArray.empty 0 (.cons db (.cons da .nil))) (.agg #[.int .i64 kR, .string sR, .int .i64 nR, .slice aR mR cR]) from hu3 ▸ R_0.out.toX _)
                have hz3 : Below wb.heap.size wb u3 := hz2.trans (hs3.mono hz2.size)
                have HU3 := hide hu3
                clear hu3
                go_simp
                rw [HU3.out]
                refine hK6.out _ _ ?_ (fun hHeld => ?_)
                · exact HS.out _ hz3
                clear hK6 K6
                refine wpAnyH_ready (rs := [5]) (by kernel_rfl) (by simp) ?_
                refine AllReadyH.cons rfl (fun K6 hK6 => ?_) AllReadyH.nil
                obtain ⟨u4, hu4⟩ : ∃ u, u3.alloc (.cells #[.int .i64 k1, .string s1, .int .i64 n1, .slice a1 m1 c1, .int .i64 kR, .string sR, .int .i64 nR, .slice aR mR cR] 25) = u := ⟨_, rfl⟩
                have hs4 : Below u3.heap.size u3 u4 := hu4 ▸ (Below.refl _ u3).alloc (Nat.le_refl _) _
                have SL4 := hide (insl_lit (g := y2.heap.size) (IsRow.two A_3.out R_3.out) (by simp [maxLen]))
                have HU4 := hide hu4
                clear hu4
                have hz4 : Below wb.heap.size wb u4 := hz3.trans (hs4.mono hz3.size)
                have A_4 := hide (A_3.out.below hs4)
                have B_4 := hide (B_3.out.below hs4)
                have R_4 := hide (R_3.out.below hs4)
                have hA4 := hide (hA3.out.below hs4 hA3.out.lt)
                have hg4 : y2.heap.size < u4.heap.size := Nat.lt_of_lt_of_le hg3 hs4.size
                go_simp
                rw [HU4.out]
                rw [HU4.out] at SL4
                refine hK6.out _ _ ?_ (fun hHeld => ?_)
                · exact HS.out _ hz4
                clear hK6 K6
                refine wpAnyH_ready (rs := [6]) (by kernel_rfl) (by simp) ?_
                refine AllReadyH.cons rfl (fun K6 hK6 => ?_) AllReadyH.nil
                go_simp
                refine (row_x hg4 SL4.out (by simp) (by simp)).mono ?_
                rintro e y5 ⟨kY, sY, nY, aY, mY, cY, rfl, hY, hy5⟩
                rw [row_2 HKA.out rfl] at hY
                have Y_0 := hide hY
                clear hY
                have hz5 : Below wb.heap.size wb y5 := hz4.trans (hy5.mono hz4.size)
                have A_5 := hide (A_4.out.below hy5)
                have B_5 := hide (B_4.out.below hy5)
                have R_5 := hide (R_4.out.below hy5)
                have hA5 := hide (hA4.out.below hy5 hA4.out.lt)
                have hg5 : y2.heap.size < y5.heap.size := Nat.lt_of_lt_of_le hg4 hy5.size
                go_simp
                refine hK6.out _ _ ?_ (fun hHeld => ?_)
                · exact HS.out _ hz5
                clear hK6 K6
                refine wpAnyH_ready (rs := [8]) (by kernel_rfl) (by simp) ?_
                refine AllReadyH.cons rfl (fun K6 hK6 => ?_) AllReadyH.nil
                obtain ⟨t0, t1, t2, t3⟩ := hA5.out.four
                have tf := hA5.out.frozen
                have hput := hide (s8_put (g := y2.heap.size) (by omega) (by omega) (HS.out _ hz5) (.int .i64 kY) (.string sY) (.int .i64 nY) (.slice aY mY cY))
                go_simp
                refine hK6.out _ _ ?_ (fun hHeld => ?_)
                · exact hput.out
                clear hK6 K6 t0 t1 t2 t3 tf
                refine wpAnyH_done (by kernel_rfl) ?_ _
                go_wp2_with fail
                go_meet
                refine hfix (wx := wb) ?_ hdwb
                exact ⟨_, _, _, _, _, _, _, rfl, hA5.out.put4_ _ _ _ _, Y_0.out.put, below_put4 hz5 (by omega) _ _ _ _⟩
            · skip
              obtain ⟨u2, hu2⟩ : ∃ u, u1.alloc (.cells #[.int .i64 0, .string ⟨#[]⟩, .int .i64 0, .slice none 0 0] 25) = u := ⟨_, rfl⟩
              have hs2 : Below u1.heap.size u1 u2 := hu2 ▸ (Below.refl _ u1).alloc (Nat.le_refl _) _
              have hA2 := hide (show Blk u2 u1.heap.size 25 #[.int .i64 0, .string ⟨#[]⟩, .int .i64 0, .slice none 0 0] from hu2 ▸ Blk.new u1 25 _)
              have hg2 := hA2.out.lt
              have hge := hz1.size
              have A_2 := hide (show IsX u1.heap.size u2 da (.agg #[.int .i64 k1, .string s1, .int .i64 n1, .slice a1 m1 c1]) from hu2 ▸ A_1.out.toX _)
              have B_2 := hide (show IsX u1.heap.size u2 db (.agg #[.int .i64 k2, .string s2, .int .i64 n2, .slice a2 m2 c2]) from hu2 ▸ B_1.out.toX _)
              have SL2 := hide (slx SL1.out hs2)
              have hz2 : Below wb.heap.size wb u2 := hz1.trans (hs2.mono hz1.size)
              have HU2 := hide hu2
              clear hu2
              go_simp
              rw [HU2.out]
              refine hK6.out _ _ ?_ (fun hHeld => ?_)
              · exact HS.out _ hz2
              clear hK6 K6
              refine wpAnyH_ready (rs := [4]) (by kernel_rfl) (by simp) ?_
              refine AllReadyH.cons rfl (fun K6 hK6 => ?_) AllReadyH.nil
              go_simp
              refine (row_x hg2 SL2.out (by simp) (by simp)).mono ?_
              rintro e y3 ⟨kR, sR, nR, aR, mR, cR, rfl, hR, hy3⟩
              rw [row_2 HKB.out HKA.out] at hR
              have R_0 := hide hR
              clear hR
              have hz3 : Below wb.heap.size wb y3 := hz2.trans (hy3.mono hz2.size)
              have A_3 := hide (A_2.out.below hy3)
              have B_3 := hide (B_2.out.below hy3)
              have hA3 := hide (hA2.out.below hy3 hA2.out.lt)
              have hg3 : u1.heap.size < y3.heap.size := Nat.lt_of_lt_of_le hg2 hy3.size
              go_simp
              refine hK6.out _ _ ?_ (fun hHeld => ?_)
              · exact HS.out _ hz3
              clear hK6 K6
              refine wpAnyH_ready (rs := [5]) (by kernel_rfl) (by simp) ?_
              refine AllReadyH.cons rfl (fun K6 hK6 => ?_) AllReadyH.nil
              obtain ⟨u4, hu4⟩ : ∃ u, y3.alloc (.cells #[.int .i64 k1, .string s1, .int .i64 n1, .slice a1 m1 c1, .int .i64 kR, .string sR, .int .i64 nR, .slice aR mR cR] 25) = u := ⟨_, rfl⟩
              have hs4 : Below y3.heap.size y3 u4 := hu4 ▸ (Below.refl _ y3).alloc (Nat.le_refl _) _
              have SL4 := hide (insl_lit (g := u1.heap.size) (IsRow.two A_3.out R_0.out) (by simp [maxLen]))
              have HU4 := hide hu4
              clear hu4
              have hz4 : Below wb.heap.size wb u4 := hz3.trans (hs4.mono hz3.size)
              have A_4 := hide (A_3.out.below hs4)
              have B_4 := hide (B_3.out.below hs4)
              have R_4 := hide (R_0.out.below hs4)
              have hA4 := hide (hA3.out.below hs4 hA3.out.lt)
              have hg4 : u1.heap.size < u4.heap.size := Nat.lt_of_lt_of_le hg3 hs4.size
              go_simp
              rw [HU4.out]
              rw [HU4.out] at SL4
              refine hK6.out _ _ ?_ (fun hHeld => ?_)
              · exact HS.out _ hz4
              clear hK6 K6
              refine wpAnyH_ready (rs := [6]) (by kernel_rfl) (by simp) ?_
              refine AllReadyH.cons rfl (fun K6 hK6 => ?_) AllReadyH.nil
              go_simp
              refine (row_x hg4 SL4.out (by simp) (by simp)).mono ?_
              rintro e y5 ⟨kY, sY, nY, aY, mY, cY, rfl, hY, hy5⟩
              rw [row_2 HKA.out rfl] at hY
              have Y_0 := hide hY
              clear hY
              have hz5 : Below wb.heap.size wb y5 := hz4.trans (hy5.mono hz4.size)
              have A_5 := hide (A_4.out.below hy5)
              have B_5 := hide (B_4.out.below hy5)
              have R_5 := hide (R_4.out.below hy5)
              have hA5 := hide (hA4.out.below hy5 hA4.out.lt)
              have hg5 : u1.heap.size < y5.heap.size := Nat.lt_of_lt_of_le hg4 hy5.size
              go_simp
              refine hK6.out _ _ ?_ (fun hHeld => ?_)
              · exact HS.out _ hz5
              clear hK6 K6
              refine wpAnyH_ready (rs := [8]) (by kernel_rfl) (by simp) ?_
              refine AllReadyH.cons rfl (fun K6 hK6 => ?_) AllReadyH.nil
              obtain ⟨t0, t1, t2, t3⟩ := hA5.out.four
              have tf := hA5.out.frozen
              have hput := hide (s8_put (g := u1.heap.size) (by omega) (by omega) (HS.out _ hz5) (.int .i64 kY) (.string sY) (.int .i64 nY) (.slice aY mY cY))
              go_simp
              refine hK6.out _ _ ?_ (fun hHeld => ?_)
              · exact hput.out
              clear hK6 K6 t0 t1 t2 t3 tf
              refine wpAnyH_done (by kernel_rfl) ?_ _
              go_wp2_with fail
              go_meet
              refine hfix (wx := wb) ?_ hdwb
              exact ⟨_, _, _, _, _, _, _, rfl, hA5.out.put4_ _ _ _ _, Y_0.out.put, below_put4 hz5 (by omega) _ _ _ _⟩
          · skip
            obtain ⟨u1, hu1⟩ : ∃ u, wb.alloc (.cells #[.int .i64 0, .string ⟨#[]⟩, .int .i64 0, .slice none 0 0] 25) = u := ⟨_, rfl⟩
            have hs1 : Below wb.heap.size wb u1 := hu1 ▸ (Below.refl _ wb).alloc (Nat.le_refl _) _
            have hA1 := hide (show Blk u1 wb.heap.size 25 #[.int .i64 0, .string ⟨#[]⟩, .int .i64 0, .slice none 0 0] from hu1 ▸ Blk.new wb 25 _)
            have hg1 := hA1.out.lt
            have hge := (Below.refl wb.heap.size wb).size
            have A_1 := hide (show IsX wb.heap.size u1 da (.agg #[.int .i64 k1, .string s1, .int .i64 n1, .slice a1 m1 c1]) from hu1 ▸ Awb.out.toX _)
            have B_1 := hide (show IsX wb.heap.size u1 db (.agg #[.int .i64 k2, .string s2, .int .i64 n2, .slice a2 m2 c2]) from hu1 ▸ Bwb.out.toX _)
            have hz1 : Below wb.heap.size wb u1 := (Below.refl wb.heap.size wb).trans (hs1.mono (Below.refl wb.heap.size wb).size)
            have HU1 := hide hu1
            clear hu1
            go_simp
            rw [HU1.out]
            refine hK6.out _ _ ?_ (fun hHeld => ?_)
            · exact HS.out _ hz1
            clear hK6 K6
            refine wpAnyH_ready (rs := [3]) (by kernel_rfl) (by simp) ?_
            refine AllReadyH.cons rfl (fun K6 hK6 => ?_) AllReadyH.nil
            obtain ⟨u2, hu2⟩ : ∃ u, u1.alloc (.cells #[.int .i64 k2, .string s2, .int .i64 n2, .slice a2 m2 c2, .int .i64 k1, .string s1, .int .i64 n1, .slice a1 m1 c1] 25) = u := ⟨_, rfl⟩
            have hs2 : Below u1.heap.size u1 u2 := hu2 ▸ (Below.refl _ u1).alloc (Nat.le_refl _) _
            have SL2 := hide (insl_lit (g := wb.heap.size) (IsRow.two B_1.out A_1.out) (by simp [maxLen]))
            have HU2 := hide hu2
            clear hu2
            have hz2 : Below wb.heap.size wb u2 := hz1.trans (hs2.mono hz1.size)
            have A_2 := hide (A_1.out.below hs2)
            have B_2 := hide (B_1.out.below hs2)
            have hA2 := hide (hA1.out.below hs2 hA1.out.lt)
            have hg2 : wb.heap.size < u2.heap.size := Nat.lt_of_lt_of_le hg1 hs2.size
            go_simp
            rw [HU2.out]
            rw [HU2.out] at SL2
            refine hK6.out _ _ ?_ (fun hHeld => ?_)
            · exact HS.out _ hz2
            clear hK6 K6
            refine wpAnyH_ready (rs := [4]) (by kernel_rfl) (by simp) ?_
            refine AllReadyH.cons rfl (fun K6 hK6 => ?_) AllReadyH.nil
            go_simp
            refine (row_x hg2 SL2.out (by simp) (by simp)).mono ?_
            rintro e y3 ⟨kR, sR, nR, aR, mR, cR, rfl, hR, hy3⟩
            rw [row_2 HKB.out HKA.out] at hR
            have R_0 := hide hR
            clear hR
            have hz3 : Below wb.heap.size wb y3 := hz2.trans (hy3.mono hz2.size)
            have A_3 := hide (A_2.out.below hy3)
            have B_3 := hide (B_2.out.below hy3)
            have hA3 := hide (hA2.out.below hy3 hA2.out.lt)
            have hg3 : wb.heap.size < y3.heap.size := Nat.lt_of_lt_of_le hg2 hy3.size
            go_simp
            refine hK6.out _ _ ?_ (fun hHeld => ?_)
            · exact HS.out _ hz3
            clear hK6 K6
            refine wpAnyH_ready (rs := [5]) (by kernel_rfl) (by simp) ?_
            refine AllReadyH.cons rfl (fun K6 hK6 => ?_) AllReadyH.nil
            obtain ⟨u4, hu4⟩ : ∃ u, y3.alloc (.cells #[.int .i64 k1, .string s1, .int .i64 n1, .slice a1 m1 c1, .int .i64 kR, .string sR, .int .i64 nR, .slice aR mR cR] 25) = u := ⟨_, rfl⟩
            have hs4 : Below y3.heap.size y3 u4 := hu4 ▸ (Below.refl _ y3).alloc (Nat.le_refl _) _
            have SL4 := hide (insl_lit (g := wb.heap.size) (IsRow.two A_3.out R_0.out) (by simp [maxLen]))
            have HU4 := hide hu4
            clear hu4
            have hz4 : Below wb.heap.size wb u4 := hz3.trans (hs4.mono hz3.size)
            have A_4 := hide (A_3.out.below hs4)
            have B_4 := hide (B_3.out.below hs4)
            have R_4 := hide (R_0.out.below hs4)
            have hA4 := hide (hA3.out.below hs4 hA3.out.lt)
            have hg4 : wb.heap.size < u4.heap.size := Nat.lt_of_lt_of_le hg3 hs4.size
            go_simp
            rw [HU4.out]
            rw [HU4.out] at SL4
            refine hK6.out _ _ ?_ (fun hHeld => ?_)
            · exact HS.out _ hz4
            clear hK6 K6
            refine wpAnyH_ready (rs := [6]) (by kernel_rfl) (by simp) ?_
            refine AllReadyH.cons rfl (fun K6 hK6 => ?_) AllReadyH.nil
            go_simp
            refine (row_x hg4 SL4.out (by simp) (by simp)).mono ?_
            rintro e y5 ⟨kY, sY, nY, aY, mY, cY, rfl, hY, hy5⟩
            rw [row_2 HKA.out rfl] at hY
            have Y_0 := hide hY
            clear hY
            have hz5 : Below wb.heap.size wb y5 := hz4.trans (hy5.mono hz4.size)
            have A_5 := hide (A_4.out.below hy5)
            have B_5 := hide (B_4.out.below hy5)
            have R_5 := hide (R_4.out.below hy5)
            have hA5 := hide (hA4.out.below hy5 hA4.out.lt)
            have hg5 : wb.heap.size < y5.heap.size := Nat.lt_of_lt_of_le hg4 hy5.size
            go_simp
            refine hK6.out _ _ ?_ (fun hHeld => ?_)
            · exact HS.out _ hz5
            clear hK6 K6
            refine wpAnyH_ready (rs := [8]) (by kernel_rfl) (by simp) ?_
            refine AllReadyH.cons rfl (fun K6 hK6 => ?_) AllReadyH.nil
            obtain ⟨t0, t1, t2, t3⟩ := hA5.out.four
            have tf := hA5.out.frozen
            have hput := hide (s8_put (g := wb.heap.size) (by omega) (by omega) (HS.out _ hz5) (.int .i64 kY) (.string sY) (.int .i64 nY) (.slice aY mY cY))
            go_simp
            refine hK6.out _ _ ?_ (fun hHeld => ?_)
            · exact hput.out
            clear hK6 K6 t0 t1 t2 t3 tf
            refine wpAnyH_done (by kernel_rfl) ?_ _
            go_wp2_with fail
            go_meet
            refine hfix (wx := wb) ?_ hdwb
            exact ⟨_, _, _, _, _, _, _, rfl, hA5.out.put4_ _ _ _ _, Y_0.out.put, below_put4 hz5 (by omega) _ _ _ _⟩
        case rest =>
          obtain ⟨g12, ky, sy, ny, ay, my, cy, rfl, hby, hy, hb7⟩ : MadeAt w6 (.mk 7 ByteArray.empty 0 (.cons da (.cons (.mk 7 ByteArray.empty 0 (.cons db (.cons da .nil))) .nil))) u12 wc := hcut
          obtain ⟨w7, rfl⟩ : ∃ w7 : World, w7 = wc := ⟨_, rfl⟩
          have hw7 : Below w.heap.size w w7 := hw6.trans (hb7.mono hw6.size)
          clear p0 p1 p2 p3 q0 q1 q2 q3
          obtain ⟨wc2, hwc2⟩ : ∃ u, w7.drew = u := ⟨_, rfl⟩
          have hdc : Below w7.heap.size w7 wc2 := hwc2 ▸ (Below.refl _ w7).drew
          have hb8 : Below w6.heap.size w6 wc2 := hb7.trans (hdc.mono hb7.size)
          have hwB : Below w.heap.size w wc2 := hw7.trans (hdc.mono hw7.size)
          obtain ⟨p0, p1, p2, p3⟩ := (BA6.out.below hb7 BA6.out.lt).four
          obtain ⟨q0, q1, q2, q3⟩ := (BB6.out.below hb7 BB6.out.lt).four
          obtain ⟨r0, r1, r2, r3⟩ := (BX6.out.below hb7 BX6.out.lt).four
          obtain ⟨t0, t1, t2, t3⟩ := hby.four
          have A7 := hide (A6.out.below hb8)
          have B7 := hide (B6.out.below hb8)
          have X7 := hide (X6.out.below hb8)
          have Y7 := hide (hy.below hdc)
          have HSL7 := hide (HSL6.out.keep (F' := (· < wc2.heap.size)) (w' := wc2) (fun b h => ⟨Nat.lt_of_lt_of_le h hb8.size, hb8.block b h⟩))
          have hS : ∀ wn, Below wc2.heap.size wc2 wn → (fun w' => w'.cell? ⟨w1.heap.size, 0, none⟩ = some (.int .i64 k1) ∧ w'.cell? ⟨w1.heap.size, 1, none⟩ = some (.string s1) ∧ w'.cell? ⟨w1.heap.size, 2, none⟩ = some (.int .i64 n1) ∧ w'.cell? ⟨w1.heap.size, 3, none⟩ = some (.slice a1 m1 c1) ∧ w'.cell? ⟨w3.heap.size, 0, none⟩ = some (.int .i64 k2) ∧ w'.cell? ⟨w3.heap.size, 1, none⟩ = some (.string s2) ∧ w'.cell? ⟨w3.heap.size, 2, none⟩ = some (.int .i64 n2) ∧ w'.cell? ⟨w3.heap.size, 3, none⟩ = some (.slice a2 m2 c2) ∧ w'.cell? ⟨g11, 0, none⟩ = some (.int .i64 kx) ∧ w'.cell? ⟨g11, 1, none⟩ = some (.string sx) ∧ w'.cell? ⟨g11, 2, none⟩ = some (.int .i64 nx) ∧ w'.cell? ⟨g11, 3, none⟩ = some (.slice ax mx cx) ∧ w'.cell? ⟨g12, 0, none⟩ = some (.int .i64 ky) ∧ w'.cell? ⟨g12, 1, none⟩ = some (.string sy) ∧ w'.cell? ⟨g12, 2, none⟩ = some (.int .i64 ny) ∧ w'.cell? ⟨g12, 3, none⟩ = some (.slice ay my cy)) wn := fun wn h => by
            have h6 : Below w6.heap.size w6 wn := hb8.trans (h.mono hb8.size)
            have h7 : Below w7.heap.size w7 wn := hdc.trans (h.mono hdc.size)
            obtain ⟨e0, e1, e2, e3⟩ := (BA6.out.below h6 BA6.out.lt).four
            obtain ⟨f0, f1, f2, f3⟩ := (BB6.out.below h6 BB6.out.lt).four
            obtain ⟨i0, i1, i2, i3⟩ := (BX6.out.below h6 BX6.out.lt).four
            obtain ⟨j0, j1, j2, j3⟩ := (hby.below h7 hby.lt).four
            exact ⟨e0, e1, e2, e3, f0, f1, f2, f3, i0, i1, i2, i3, j0, j1, j2, j3⟩
          have HS := hide hS
          have HTX := hide (show totD (.mk 7 ByteArray.empty 0 (.cons (.mk 7 ByteArray.empty 0 (.cons da (.cons db .nil))) (.cons da .nil))) ≤ 1000000000 by rw [tot_2, tot_2]; omega)
          have HTY := hide (show totD (.mk 7 ByteArray.empty 0 (.cons da (.cons (.mk 7 ByteArray.empty 0 (.cons db (.cons da .nil))) .nil))) ≤ 1000000000 by rw [tot_2, tot_2]; omega)
          obtain ⟨WS, hWS⟩ : ∃ WS : ByteArray, (⟨(textsL (leavesD (.mk 7 ByteArray.empty 0 (.cons (.mk 7 ByteArray.empty 0 (.cons da (.cons db .nil))) (.cons da .nil))))).toArray⟩ : ByteArray) = WS := ⟨_, rfl⟩
          have HWX := hide hWS
          have HWY := hide (show (⟨(textsL (leavesD (.mk 7 ByteArray.empty 0 (.cons da (.cons (.mk 7 ByteArray.empty 0 (.cons db (.cons da .nil))) .nil))))).toArray⟩ : ByteArray) = WS by rw [← hWS, leaves_2, leaves_2, leaves_2, leaves_2, List.append_assoc])
          clear hS hWS hby hy hb8 hdc
          cases ha : rightD da with
          | false =>
            go_wp2_with fail
            refine wp_region_held_drew (S := fun w' => w'.cell? ⟨w1.heap.size, 0, none⟩ = some (.int .i64 k1) ∧ w'.cell? ⟨w1.heap.size, 1, none⟩ = some (.string s1) ∧ w'.cell? ⟨w1.heap.size, 2, none⟩ = some (.int .i64 n1) ∧ w'.cell? ⟨w1.heap.size, 3, none⟩ = some (.slice a1 m1 c1) ∧ w'.cell? ⟨w3.heap.size, 0, none⟩ = some (.int .i64 k2) ∧ w'.cell? ⟨w3.heap.size, 1, none⟩ = some (.string s2) ∧ w'.cell? ⟨w3.heap.size, 2, none⟩ = some (.int .i64 n2) ∧ w'.cell? ⟨w3.heap.size, 3, none⟩ = some (.slice a2 m2 c2) ∧ w'.cell? ⟨g11, 0, none⟩ = some (.int .i64 kx) ∧ w'.cell? ⟨g11, 1, none⟩ = some (.string sx) ∧ w'.cell? ⟨g11, 2, none⟩ = some (.int .i64 nx) ∧ w'.cell? ⟨g11, 3, none⟩ = some (.slice ax mx cx) ∧ w'.cell? ⟨g12, 0, none⟩ = some (.int .i64 ky) ∧ w'.cell? ⟨g12, 1, none⟩ = some (.string sy) ∧ w'.cell? ⟨g12, 2, none⟩ = some (.int .i64 ny) ∧ w'.cell? ⟨g12, 3, none⟩ = some (.slice ay my cy)) (by kernel_rfl) ?_ (fun hHeld => ?_)
            · exact ⟨p0, p1, p2, p3, q0, q1, q2, q3, r0, r1, r2, r3, t0, t1, t2, t3⟩
            rw [hwc2] at hHeld ⊢
            refine wpAnyH_ready (rs := [0]) (by kernel_rfl) (by simp) ?_
            refine AllReadyH.cons rfl (fun K hK => ?_) AllReadyH.nil
            go_simp
            refine (known_any wc2).mono ?_
            rintro e y1 ⟨rfl, hy1⟩
            have hz1 : Below wc2.heap.size wc2 y1 := (Below.refl wc2.heap.size wc2).trans (hy1.mono (Below.refl wc2.heap.size wc2).size)
            go_simp
            refine hK.out _ _ ?_ (fun hHeld => ?_)
            · exact HS.out _ hz1
            clear hK K
            refine wpAnyH_take (i := 1) (v := ?_) rfl (by kernel_rfl) (by kernel_rfl) (by kernel_rfl) (fun _ _ _ h => h) (Or.inl ⟨by rfl, ?_⟩) (by assumption) ?_
            rotate_left
            · intro w hSw; (try dsimp only at hSw); (try go_split_ands); go_simp
              all_goals with_reducible rfl
            try simp only [Act.put, List.getElem_toArray, List.getElem_cons_zero, List.getElem_cons_succ, List.setIfInBounds_toArray, List.set_cons_zero, List.set_cons_succ]
            refine wpAnyH_take (i := 2) (v := ?_) rfl (by kernel_rfl) (by kernel_rfl) (by kernel_rfl) (fun _ _ _ h => h) (Or.inl ⟨by rfl, ?_⟩) (by assumption) ?_
            rotate_left
            · intro w hSw; (try dsimp only at hSw); (try go_split_ands); go_simp
              all_goals with_reducible rfl
            try simp only [Act.put, List.getElem_toArray, List.getElem_cons_zero, List.getElem_cons_succ, List.setIfInBounds_toArray, List.set_cons_zero, List.set_cons_succ]
            refine wpAnyH_ready (rs := [3]) (by kernel_rfl) (by simp) ?_
            refine AllReadyH.cons rfl (fun K hK => ?_) AllReadyH.nil
            go_simp
            refine (right_m (A7.out.below hz1)).mono ?_
            rintro e y2 ⟨rfl, hy2⟩
            rw [ha]
            have hz2 : Below wc2.heap.size wc2 y2 := hz1.trans (hy2.mono hz1.size)
            go_simp
            refine hK.out _ _ ?_ (fun hHeld => ?_)
            · exact HS.out _ hz2
            clear hK K
            refine wpAnyH_take (i := 4) (v := ?_) rfl (by kernel_rfl) (by kernel_rfl) (by kernel_rfl) (fun _ _ _ h => h) (Or.inl ⟨by rfl, ?_⟩) (by assumption) ?_
            rotate_left
            · intro w hSw; (try dsimp only at hSw); (try go_split_ands); go_simp
              all_goals with_reducible rfl
            try simp only [Act.put, List.getElem_toArray, List.getElem_cons_zero, List.getElem_cons_succ, List.setIfInBounds_toArray, List.set_cons_zero, List.set_cons_succ]
            refine wpAnyH_take (i := 5) (v := ?_) rfl (by kernel_rfl) (by kernel_rfl) (by kernel_rfl) (fun _ _ _ h => h) (Or.inl ⟨by rfl, ?_⟩) (by assumption) ?_
            rotate_left
            · intro w hSw; (try dsimp only at hSw); (try go_split_ands); go_simp
              all_goals with_reducible rfl
            try simp only [Act.put, List.getElem_toArray, List.getElem_cons_zero, List.getElem_cons_succ, List.setIfInBounds_toArray, List.set_cons_zero, List.set_cons_succ]
            refine wpAnyH_take (i := 6) (v := undef) rfl (by kernel_rfl) (by kernel_rfl) (by kernel_rfl) (fun _ _ _ h => h) (Or.inr ⟨by rfl, rfl⟩) (by assumption) ?_
            try simp only [Act.put, List.getElem_toArray, List.getElem_cons_zero, List.getElem_cons_succ, List.setIfInBounds_toArray, List.set_cons_zero, List.set_cons_succ]
            refine wpAnyH_take (i := 7) (v := undef) rfl (by kernel_rfl) (by kernel_rfl) (by kernel_rfl) (fun _ _ _ h => h) (Or.inr ⟨by rfl, rfl⟩) (by assumption) ?_
            try simp only [Act.put, List.getElem_toArray, List.getElem_cons_zero, List.getElem_cons_succ, List.setIfInBounds_toArray, List.set_cons_zero, List.set_cons_succ]
            refine wpAnyH_take (i := 8) (v := undef) rfl (by kernel_rfl) (by kernel_rfl) (by kernel_rfl) (fun _ _ _ h => h) (Or.inr ⟨by rfl, rfl⟩) (by assumption) ?_
            try simp only [Act.put, List.getElem_toArray, List.getElem_cons_zero, List.getElem_cons_succ, List.setIfInBounds_toArray, List.set_cons_zero, List.set_cons_succ]
            refine wpAnyH_take (i := 9) (v := ?_) rfl (by kernel_rfl) (by kernel_rfl) (by kernel_rfl) (fun _ _ _ h => h) (Or.inl ⟨by rfl, ?_⟩) (by assumption) ?_
            rotate_left
            · intro w hSw; (try dsimp only at hSw); (try go_split_ands); go_simp
              all_goals with_reducible rfl
            try simp only [Act.put, List.getElem_toArray, List.getElem_cons_zero, List.getElem_cons_succ, List.setIfInBounds_toArray, List.set_cons_zero, List.set_cons_succ]
            refine wpAnyH_take (i := 10) (v := ?_) rfl (by kernel_rfl) (by kernel_rfl) (by kernel_rfl) (fun _ _ _ h => h) (Or.inl ⟨by rfl, ?_⟩) (by assumption) ?_
            rotate_left
            · intro w hSw; (try dsimp only at hSw); (try go_split_ands); go_simp
              all_goals with_reducible rfl
            try simp only [Act.put, List.getElem_toArray, List.getElem_cons_zero, List.getElem_cons_succ, List.setIfInBounds_toArray, List.set_cons_zero, List.set_cons_succ]
            refine wpAnyH_take (i := 11) (v := undef) rfl (by kernel_rfl) (by kernel_rfl) (by kernel_rfl) (fun _ _ _ h => h) (Or.inr ⟨by rfl, rfl⟩) (by assumption) ?_
            try simp only [Act.put, List.getElem_toArray, List.getElem_cons_zero, List.getElem_cons_succ, List.setIfInBounds_toArray, List.set_cons_zero, List.set_cons_succ]
            refine wpAnyH_take (i := 12) (v := undef) rfl (by kernel_rfl) (by kernel_rfl) (by kernel_rfl) (fun _ _ _ h => h) (Or.inr ⟨by rfl, rfl⟩) (by assumption) ?_
            try simp only [Act.put, List.getElem_toArray, List.getElem_cons_zero, List.getElem_cons_succ, List.setIfInBounds_toArray, List.set_cons_zero, List.set_cons_succ]
            refine wpAnyH_take (i := 13) (v := undef) rfl (by kernel_rfl) (by kernel_rfl) (by kernel_rfl) (fun _ _ _ h => h) (Or.inr ⟨by rfl, rfl⟩) (by assumption) ?_
            try simp only [Act.put, List.getElem_toArray, List.getElem_cons_zero, List.getElem_cons_succ, List.setIfInBounds_toArray, List.set_cons_zero, List.set_cons_succ]
            refine wpAnyH_take (i := 14) (v := undef) rfl (by kernel_rfl) (by kernel_rfl) (by kernel_rfl) (fun _ _ _ h => h) (Or.inr ⟨by rfl, rfl⟩) (by assumption) ?_
            try simp only [Act.put, List.getElem_toArray, List.getElem_cons_zero, List.getElem_cons_succ, List.setIfInBounds_toArray, List.set_cons_zero, List.set_cons_succ]
            refine wpAnyH_take (i := 15) (v := undef) rfl (by kernel_rfl) (by kernel_rfl) (by kernel_rfl) (fun _ _ _ h => h) (Or.inr ⟨by rfl, rfl⟩) (by assumption) ?_
            try simp only [Act.put, List.getElem_toArray, List.getElem_cons_zero, List.getElem_cons_succ, List.setIfInBounds_toArray, List.set_cons_zero, List.set_cons_succ]
            refine wpAnyH_take (i := 16) (v := ?_) rfl (by kernel_rfl) (by kernel_rfl) (by kernel_rfl) (fun _ _ _ h => h) (Or.inl ⟨by rfl, ?_⟩) (by assumption) ?_
            rotate_left
            · intro w hSw; (try dsimp only at hSw); (try go_split_ands); go_simp
              all_goals with_reducible rfl
            try simp only [Act.put, List.getElem_toArray, List.getElem_cons_zero, List.getElem_cons_succ, List.setIfInBounds_toArray, List.set_cons_zero, List.set_cons_succ]
            refine wpAnyH_take (i := 17) (v := ?_) rfl (by kernel_rfl) (by kernel_rfl) (by kernel_rfl) (fun _ _ _ h => h) (Or.inl ⟨by rfl, ?_⟩) (by assumption) ?_
            rotate_left
            · intro w hSw; (try dsimp only at hSw); (try go_split_ands); go_simp
              all_goals with_reducible rfl
            try simp only [Act.put, List.getElem_toArray, List.getElem_cons_zero, List.getElem_cons_succ, List.setIfInBounds_toArray, List.set_cons_zero, List.set_cons_succ]
            refine wpAnyH_take (i := 18) (v := ?_) rfl (by kernel_rfl) (by kernel_rfl) (by kernel_rfl) (fun _ _ _ h => h) (Or.inl ⟨by rfl, ?_⟩) (by assumption) ?_
            rotate_left
            · intro w hSw; (try dsimp only at hSw); (try go_split_ands); go_simp
              all_goals with_reducible rfl
            try simp only [Act.put, List.getElem_toArray, List.getElem_cons_zero, List.getElem_cons_succ, List.setIfInBounds_toArray, List.set_cons_zero, List.set_cons_succ]
            refine wpAnyH_take (i := 19) (v := ?_) rfl (by kernel_rfl) (by kernel_rfl) (by kernel_rfl) (fun _ _ _ h => h) (Or.inl ⟨by rfl, ?_⟩) (by assumption) ?_
            rotate_left
            · intro w hSw; (try dsimp only at hSw); (try go_split_ands); go_simp
              all_goals with_reducible rfl
            try simp only [Act.put, List.getElem_toArray, List.getElem_cons_zero, List.getElem_cons_succ, List.setIfInBounds_toArray, List.set_cons_zero, List.set_cons_succ]
            refine wpAnyH_take (i := 21) (v := ?_) rfl (by kernel_rfl) (by kernel_rfl) (by kernel_rfl) (fun _ _ _ h => h) (Or.inl ⟨by rfl, ?_⟩) (by assumption) ?_
            rotate_left
            · intro w hSw; (try dsimp only at hSw); (try go_split_ands); go_simp
              all_goals with_reducible rfl
            try simp only [Act.put, List.getElem_toArray, List.getElem_cons_zero, List.getElem_cons_succ, List.setIfInBounds_toArray, List.set_cons_zero, List.set_cons_succ]
            have hl7 := hide (HSL7.out.keep (F' := (· < y2.heap.size)) (w' := y2) (fun b h => ⟨Nat.lt_of_lt_of_le h hz2.size, hz2.block b h⟩))
            refine wpAnyH_ready (rs := [20]) (by kernel_rfl) (by simp) ?_
            refine AllReadyH.cons rfl (fun K hK => ?_) AllReadyH.nil
            go_simp
            refine (row_n hl7.out (by simp; omega) (by simp)).mono ?_
            rintro e y3 ⟨kLa, sLa, nLa, aLa, mLa, cLa, rfl, hLa, hy3⟩
            rw [row_es HKA.out] at hLa
            have hz3 : Below wc2.heap.size wc2 y3 := hz2.trans (hy3.mono hz2.size)
            have La := hide hLa
            clear hLa
            go_simp
            refine hK.out _ _ ?_ (fun hHeld => ?_)
            · exact HS.out _ hz3
            clear hK K
            refine wpAnyH_ready (rs := [22]) (by kernel_rfl) (by simp) ?_
            refine AllReadyH.cons rfl (fun K hK => ?_) AllReadyH.nil
            go_simp
            refine (same_m La.out (A7.out.below hz3)).mono ?_
            rintro e y4 ⟨rfl, hy4⟩
            rw [same_self]
            have hz4 : Below wc2.heap.size wc2 y4 := hz3.trans (hy4.mono hz3.size)
            go_simp
            refine hK.out _ _ ?_ (fun hHeld => ?_)
            · exact HS.out _ hz4
            clear hK K
            refine wpAnyH_take (i := 23) (v := ?_) rfl (by kernel_rfl) (by kernel_rfl) (by kernel_rfl) (fun _ _ _ h => h) (Or.inl ⟨by rfl, ?_⟩) (by assumption) ?_
            rotate_left
            · intro w hSw; (try dsimp only at hSw); (try go_split_ands); go_simp
              all_goals with_reducible rfl
            try simp only [Act.put, List.getElem_toArray, List.getElem_cons_zero, List.getElem_cons_succ, List.setIfInBounds_toArray, List.set_cons_zero, List.set_cons_succ]
            refine wpAnyH_take (i := 24) (v := ?_) rfl (by kernel_rfl) (by kernel_rfl) (by kernel_rfl) (fun _ _ _ h => h) (Or.inl ⟨by rfl, ?_⟩) (by assumption) ?_
            rotate_left
            · intro w hSw; (try dsimp only at hSw); (try go_split_ands); go_simp
              all_goals with_reducible rfl
            try simp only [Act.put, List.getElem_toArray, List.getElem_cons_zero, List.getElem_cons_succ, List.setIfInBounds_toArray, List.set_cons_zero, List.set_cons_succ]
            refine wpAnyH_take (i := 25) (v := ?_) rfl (by kernel_rfl) (by kernel_rfl) (by kernel_rfl) (fun _ _ _ h => h) (Or.inl ⟨by rfl, ?_⟩) (by assumption) ?_
            rotate_left
            · intro w hSw; (try dsimp only at hSw); (try go_split_ands); go_simp
              all_goals with_reducible rfl
            try simp only [Act.put, List.getElem_toArray, List.getElem_cons_zero, List.getElem_cons_succ, List.setIfInBounds_toArray, List.set_cons_zero, List.set_cons_succ]
            refine wpAnyH_take (i := 26) (v := ?_) rfl (by kernel_rfl) (by kernel_rfl) (by kernel_rfl) (fun _ _ _ h => h) (Or.inl ⟨by rfl, ?_⟩) (by assumption) ?_
            rotate_left
            · intro w hSw; (try dsimp only at hSw); (try go_split_ands); go_simp
              all_goals with_reducible rfl
            try simp only [Act.put, List.getElem_toArray, List.getElem_cons_zero, List.getElem_cons_succ, List.setIfInBounds_toArray, List.set_cons_zero, List.set_cons_succ]
            obtain ⟨y5, hu5⟩ : ∃ u, y4.alloc (.cells #[.int .i64 0, .string ⟨#[]⟩, .int .i64 0, .slice none 0 0, .int .i64 0, .string ⟨#[]⟩, .int .i64 0, .slice none 0 0] 25) = u := ⟨_, rfl⟩
            have hs5 : Below y4.heap.size y4 y5 := hu5 ▸ (Below.refl _ y4).alloc (Nat.le_refl _) _
            have SE := hide (isl_lit (IsRow.two (is_empty (w := y4)) (is_empty (w := y4))) (by simp [maxLen]))
            have HU5 := hide hu5
            clear hu5
            have hz5 : Below wc2.heap.size wc2 y5 := hz4.trans (hs5.mono hz4.size)
            refine wpAnyH_ready (rs := [27]) (by kernel_rfl) (by simp) ?_
            refine AllReadyH.cons rfl (fun K hK => ?_) AllReadyH.nil
            go_simp
            rw [HU5.out]
            rw [HU5.out] at SE
            refine hK.out _ _ ?_ (fun hHeld => ?_)
            · exact HS.out _ hz5
            clear hK K
            refine wpAnyH_ready (rs := [28]) (by kernel_rfl) (by simp) ?_
            refine AllReadyH.cons rfl (fun K hK => ?_) AllReadyH.nil
            go_simp
            refine (row_n (ds := [e0, e0]) SE.out (by simp) (by simp)).mono ?_
            rintro e y6 ⟨kLe, sLe, nLe, aLe, mLe, cLe, rfl, hLe, hy6⟩
            rw [row_ee] at hLe
            obtain rfl := kind_0 hLe
            have hf0 := field0 0 sLe nLe aLe mLe cLe
            have hz6 : Below wc2.heap.size wc2 y6 := hz5.trans (hy6.mono hz5.size)
            have Le := hide hLe
            clear hLe
            go_simp
            refine hK.out _ _ ?_ (fun hHeld => ?_)
            · exact HS.out _ hz6
            clear hK K
            refine wpAnyH_take (i := 29) (v := ?_) rfl (by kernel_rfl) (by kernel_rfl) (by kernel_rfl) (fun _ _ _ h => h) (Or.inl ⟨by rfl, ?_⟩) (by assumption) ?_
            rotate_left
            · intro w hSw; (try dsimp only at hSw); (try go_split_ands); go_simp
              all_goals with_reducible rfl
            try simp only [Act.put, List.getElem_toArray, List.getElem_cons_zero, List.getElem_cons_succ, List.setIfInBounds_toArray, List.set_cons_zero, List.set_cons_succ]
            refine wpAnyH_take (i := 30) (v := ?_) rfl (by kernel_rfl) (by kernel_rfl) (by kernel_rfl) (fun _ _ _ h => h) (Or.inl ⟨by rfl, ?_⟩) (by assumption) ?_
            rotate_left
            · intro w hSw; (try dsimp only at hSw); (try go_split_ands); go_simp
              all_goals with_reducible rfl
            try simp only [Act.put, List.getElem_toArray, List.getElem_cons_zero, List.getElem_cons_succ, List.setIfInBounds_toArray, List.set_cons_zero, List.set_cons_succ]
            refine wpAnyH_take (i := 31) (v := ?_) rfl (by kernel_rfl) (by kernel_rfl) (by kernel_rfl) (fun _ _ _ h => h) (Or.inl ⟨by rfl, ?_⟩) (by assumption) ?_
            rotate_left
            · intro w hSw; (try dsimp only at hSw); (try go_split_ands); go_simp
              all_goals with_reducible rfl
            try simp only [Act.put, List.getElem_toArray, List.getElem_cons_zero, List.getElem_cons_succ, List.setIfInBounds_toArray, List.set_cons_zero, List.set_cons_succ]
            refine wpAnyH_take (i := 32) (v := ?_) rfl (by kernel_rfl) (by kernel_rfl) (by kernel_rfl) (fun _ _ _ h => h) (Or.inl ⟨by rfl, ?_⟩) (by assumption) ?_
            rotate_left
            · intro w hSw; (try dsimp only at hSw); (try go_split_ands); go_simp
              all_goals with_reducible rfl
            try simp only [Act.put, List.getElem_toArray, List.getElem_cons_zero, List.getElem_cons_succ, List.setIfInBounds_toArray, List.set_cons_zero, List.set_cons_succ]
            refine wpAnyH_take (i := 33) (v := ?_) rfl (by kernel_rfl) (by kernel_rfl) (by kernel_rfl) (fun _ _ _ h => h) (Or.inl ⟨by rfl, ?_⟩) (by assumption) ?_
            rotate_left
            · intro w hSw; (try dsimp only at hSw); (try go_split_ands); go_simp
              all_goals with_reducible rfl
            try simp only [Act.put, List.getElem_toArray, List.getElem_cons_zero, List.getElem_cons_succ, List.setIfInBounds_toArray, List.set_cons_zero, List.set_cons_succ]
            refine wpAnyH_take (i := 36) (v := ?_) rfl (by kernel_rfl) (by kernel_rfl) (by kernel_rfl) (fun _ _ _ h => h) (Or.inl ⟨by rfl, ?_⟩) (by assumption) ?_
            rotate_left
            · intro w hSw; (try dsimp only at hSw); (try go_split_ands); go_simp
              all_goals with_reducible rfl
            try simp only [Act.put, List.getElem_toArray, List.getElem_cons_zero, List.getElem_cons_succ, List.setIfInBounds_toArray, List.set_cons_zero, List.set_cons_succ]
            obtain ⟨y7, hu7⟩ : ∃ u, y6.alloc (.cells #[.int .i64 k1, .string s1, .int .i64 n1, .slice a1 m1 c1] 25) = u := ⟨_, rfl⟩
            have hs7 : Below y6.heap.size y6 y7 := hu7 ▸ (Below.refl _ y6).alloc (Nat.le_refl _) _
            have SA := hide (isl_lit (IsRow.one (A7.out.below hz6)) (by simp [maxLen]))
            have HU7 := hide hu7
            clear hu7
            have hz7 : Below wc2.heap.size wc2 y7 := hz6.trans (hs7.mono hz6.size)
            refine wpAnyH_ready (rs := [34]) (by kernel_rfl) (by simp) ?_
            refine AllReadyH.cons rfl (fun K hK => ?_) AllReadyH.nil
            go_simp
            rw [HU7.out]
            rw [HU7.out] at SA
            refine hK.out _ _ ?_ (fun hHeld => ?_)
            · exact HS.out _ hz7
            clear hK K
            refine wpAnyH_ready (rs := [35]) (by kernel_rfl) (by simp) ?_
            refine AllReadyH.cons rfl (fun K hK => ?_) AllReadyH.nil
            go_simp
            refine (row_n SA.out (by simp) (by simp)).mono ?_
            rintro e y8 ⟨kLb, sLb, nLb, aLb, mLb, cLb, rfl, hLb, hy8⟩
            rw [row_1 HKA.out] at hLb
            have hz8 : Below wc2.heap.size wc2 y8 := hz7.trans (hy8.mono hz7.size)
            have Lb := hide hLb
            clear hLb
            go_simp
            refine hK.out _ _ ?_ (fun hHeld => ?_)
            · exact HS.out _ hz8
            clear hK K
            refine wpAnyH_ready (rs := [37]) (by kernel_rfl) (by simp) ?_
            refine AllReadyH.cons rfl (fun K hK => ?_) AllReadyH.nil
            go_simp
            refine (same_m Lb.out (A7.out.below hz8)).mono ?_
            rintro e y9 ⟨rfl, hy9⟩
            rw [same_self]
            have hz9 : Below wc2.heap.size wc2 y9 := hz8.trans (hy9.mono hz8.size)
            go_simp
            refine hK.out _ _ ?_ (fun hHeld => ?_)
            · exact HS.out _ hz9
            clear hK K
            refine wpAnyH_take (i := 38) (v := ?_) rfl (by kernel_rfl) (by kernel_rfl) (by kernel_rfl) (fun _ _ _ h => h) (Or.inl ⟨by rfl, ?_⟩) (by assumption) ?_
            rotate_left
            · intro w hSw; (try dsimp only at hSw); (try go_split_ands); go_simp
              all_goals with_reducible rfl
            try simp only [Act.put, List.getElem_toArray, List.getElem_cons_zero, List.getElem_cons_succ, List.setIfInBounds_toArray, List.set_cons_zero, List.set_cons_succ]
            refine wpAnyH_take (i := 39) (v := ?_) rfl (by kernel_rfl) (by kernel_rfl) (by kernel_rfl) (fun _ _ _ h => h) (Or.inl ⟨by rfl, ?_⟩) (by assumption) ?_
            rotate_left
            · intro w hSw; (try dsimp only at hSw); (try go_split_ands); go_simp
              all_goals with_reducible rfl
            try simp only [Act.put, List.getElem_toArray, List.getElem_cons_zero, List.getElem_cons_succ, List.setIfInBounds_toArray, List.set_cons_zero, List.set_cons_succ]
            refine wpAnyH_done (by kernel_rfl) ?_ _
            go_wp2_with fail
            go_ret
            exact ⟨rfl, hwB.trans (hz9.mono hwB.size)⟩
          | true =>
            cases hb : rightD db with
            | false =>
              go_wp2_with fail
              refine wp_region_held_drew (S := fun w' => w'.cell? ⟨w1.heap.size, 0, none⟩ = some (.int .i64 k1) ∧ w'.cell? ⟨w1.heap.size, 1, none⟩ = some (.string s1) ∧ w'.cell? ⟨w1.heap.size, 2, none⟩ = some (.int .i64 n1) ∧ w'.cell? ⟨w1.heap.size, 3, none⟩ = some (.slice a1 m1 c1) ∧ w'.cell? ⟨w3.heap.size, 0, none⟩ = some (.int .i64 k2) ∧ w'.cell? ⟨w3.heap.size, 1, none⟩ = some (.string s2) ∧ w'.cell? ⟨w3.heap.size, 2, none⟩ = some (.int .i64 n2) ∧ w'.cell? ⟨w3.heap.size, 3, none⟩ = some (.slice a2 m2 c2) ∧ w'.cell? ⟨g11, 0, none⟩ = some (.int .i64 kx) ∧ w'.cell? ⟨g11, 1, none⟩ = some (.string sx) ∧ w'.cell? ⟨g11, 2, none⟩ = some (.int .i64 nx) ∧ w'.cell? ⟨g11, 3, none⟩ = some (.slice ax mx cx) ∧ w'.cell? ⟨g12, 0, none⟩ = some (.int .i64 ky) ∧ w'.cell? ⟨g12, 1, none⟩ = some (.string sy) ∧ w'.cell? ⟨g12, 2, none⟩ = some (.int .i64 ny) ∧ w'.cell? ⟨g12, 3, none⟩ = some (.slice ay my cy)) (by kernel_rfl) ?_ (fun hHeld => ?_)
              · exact ⟨p0, p1, p2, p3, q0, q1, q2, q3, r0, r1, r2, r3, t0, t1, t2, t3⟩
              rw [hwc2] at hHeld ⊢
              refine wpAnyH_ready (rs := [0]) (by kernel_rfl) (by simp) ?_
              refine AllReadyH.cons rfl (fun K hK => ?_) AllReadyH.nil
              go_simp
              refine (known_any wc2).mono ?_
              rintro e y1 ⟨rfl, hy1⟩
              have hz1 : Below wc2.heap.size wc2 y1 := (Below.refl wc2.heap.size wc2).trans (hy1.mono (Below.refl wc2.heap.size wc2).size)
              go_simp
              refine hK.out _ _ ?_ (fun hHeld => ?_)
              · exact HS.out _ hz1
              clear hK K
              refine wpAnyH_take (i := 1) (v := ?_) rfl (by kernel_rfl) (by kernel_rfl) (by kernel_rfl) (fun _ _ _ h => h) (Or.inl ⟨by rfl, ?_⟩) (by assumption) ?_
              rotate_left
              · intro w hSw; (try dsimp only at hSw); (try go_split_ands); go_simp
                all_goals with_reducible rfl
              try simp only [Act.put, List.getElem_toArray, List.getElem_cons_zero, List.getElem_cons_succ, List.setIfInBounds_toArray, List.set_cons_zero, List.set_cons_succ]
              refine wpAnyH_take (i := 2) (v := ?_) rfl (by kernel_rfl) (by kernel_rfl) (by kernel_rfl) (fun _ _ _ h => h) (Or.inl ⟨by rfl, ?_⟩) (by assumption) ?_
              rotate_left
              · intro w hSw; (try dsimp only at hSw); (try go_split_ands); go_simp
                all_goals with_reducible rfl
              try simp only [Act.put, List.getElem_toArray, List.getElem_cons_zero, List.getElem_cons_succ, List.setIfInBounds_toArray, List.set_cons_zero, List.set_cons_succ]
              refine wpAnyH_ready (rs := [3]) (by kernel_rfl) (by simp) ?_
              refine AllReadyH.cons rfl (fun K hK => ?_) AllReadyH.nil
              go_simp
              refine (right_m (A7.out.below hz1)).mono ?_
              rintro e y2 ⟨rfl, hy2⟩
              rw [ha]
              have hz2 : Below wc2.heap.size wc2 y2 := hz1.trans (hy2.mono hz1.size)
              go_simp
              refine hK.out _ _ ?_ (fun hHeld => ?_)
              · exact HS.out _ hz2
              clear hK K
              refine wpAnyH_take (i := 4) (v := ?_) rfl (by kernel_rfl) (by kernel_rfl) (by kernel_rfl) (fun _ _ _ h => h) (Or.inl ⟨by rfl, ?_⟩) (by assumption) ?_
              rotate_left
              · intro w hSw; (try dsimp only at hSw); (try go_split_ands); go_simp
                all_goals with_reducible rfl
              try simp only [Act.put, List.getElem_toArray, List.getElem_cons_zero, List.getElem_cons_succ, List.setIfInBounds_toArray, List.set_cons_zero, List.set_cons_succ]
              refine wpAnyH_take (i := 5) (v := ?_) rfl (by kernel_rfl) (by kernel_rfl) (by kernel_rfl) (fun _ _ _ h => h) (Or.inl ⟨by rfl, ?_⟩) (by assumption) ?_
              rotate_left
              · intro w hSw; (try dsimp only at hSw); (try go_split_ands); go_simp
                all_goals with_reducible rfl
              try simp only [Act.put, List.getElem_toArray, List.getElem_cons_zero, List.getElem_cons_succ, List.setIfInBounds_toArray, List.set_cons_zero, List.set_cons_succ]
              refine wpAnyH_take (i := 6) (v := ?_) rfl (by kernel_rfl) (by kernel_rfl) (by kernel_rfl) (fun _ _ _ h => h) (Or.inl ⟨by rfl, ?_⟩) (by assumption) ?_
              rotate_left
              · intro w hSw; (try dsimp only at hSw); (try go_split_ands); go_simp
                all_goals with_reducible rfl
              try simp only [Act.put, List.getElem_toArray, List.getElem_cons_zero, List.getElem_cons_succ, List.setIfInBounds_toArray, List.set_cons_zero, List.set_cons_succ]
              refine wpAnyH_ready (rs := [7]) (by kernel_rfl) (by simp) ?_
              refine AllReadyH.cons rfl (fun K hK => ?_) AllReadyH.nil
              go_simp
              refine (right_m (B7.out.below hz2)).mono ?_
              rintro e y3 ⟨rfl, hy3⟩
              rw [hb]
              have hz3 : Below wc2.heap.size wc2 y3 := hz2.trans (hy3.mono hz2.size)
              go_simp
              refine hK.out _ _ ?_ (fun hHeld => ?_)
              · exact HS.out _ hz3
              clear hK K
              refine wpAnyH_take (i := 8) (v := ?_) rfl (by kernel_rfl) (by kernel_rfl) (by kernel_rfl) (fun _ _ _ h => h) (Or.inl ⟨by rfl, ?_⟩) (by assumption) ?_
              rotate_left
              · intro w hSw; (try dsimp only at hSw); (try go_split_ands); go_simp
                all_goals with_reducible rfl
              try simp only [Act.put, List.getElem_toArray, List.getElem_cons_zero, List.getElem_cons_succ, List.setIfInBounds_toArray, List.set_cons_zero, List.set_cons_succ]
              refine wpAnyH_take (i := 9) (v := ?_) rfl (by kernel_rfl) (by kernel_rfl) (by kernel_rfl) (fun _ _ _ h => h) (Or.inl ⟨by rfl, ?_⟩) (by assumption) ?_
              rotate_left
              · intro w hSw; (try dsimp only at hSw); (try go_split_ands); go_simp
                all_goals with_reducible rfl
              try simp only [Act.put, List.getElem_toArray, List.getElem_cons_zero, List.getElem_cons_succ, List.setIfInBounds_toArray, List.set_cons_zero, List.set_cons_succ]
              refine wpAnyH_take (i := 10) (v := ?_) rfl (by kernel_rfl) (by kernel_rfl) (by kernel_rfl) (fun _ _ _ h => h) (Or.inl ⟨by rfl, ?_⟩) (by assumption) ?_
              rotate_left
              · intro w hSw; (try dsimp only at hSw); (try go_split_ands); go_simp
                all_goals with_reducible rfl
              try simp only [Act.put, List.getElem_toArray, List.getElem_cons_zero, List.getElem_cons_succ, List.setIfInBounds_toArray, List.set_cons_zero, List.set_cons_succ]
              refine wpAnyH_take (i := 11) (v := undef) rfl (by kernel_rfl) (by kernel_rfl) (by kernel_rfl) (fun _ _ _ h => h) (Or.inr ⟨by rfl, rfl⟩) (by assumption) ?_
              try simp only [Act.put, List.getElem_toArray, List.getElem_cons_zero, List.getElem_cons_succ, List.setIfInBounds_toArray, List.set_cons_zero, List.set_cons_succ]
              refine wpAnyH_take (i := 12) (v := undef) rfl (by kernel_rfl) (by kernel_rfl) (by kernel_rfl) (fun _ _ _ h => h) (Or.inr ⟨by rfl, rfl⟩) (by assumption) ?_
              try simp only [Act.put, List.getElem_toArray, List.getElem_cons_zero, List.getElem_cons_succ, List.setIfInBounds_toArray, List.set_cons_zero, List.set_cons_succ]
              refine wpAnyH_take (i := 13) (v := undef) rfl (by kernel_rfl) (by kernel_rfl) (by kernel_rfl) (fun _ _ _ h => h) (Or.inr ⟨by rfl, rfl⟩) (by assumption) ?_
              try simp only [Act.put, List.getElem_toArray, List.getElem_cons_zero, List.getElem_cons_succ, List.setIfInBounds_toArray, List.set_cons_zero, List.set_cons_succ]
              refine wpAnyH_take (i := 14) (v := undef) rfl (by kernel_rfl) (by kernel_rfl) (by kernel_rfl) (fun _ _ _ h => h) (Or.inr ⟨by rfl, rfl⟩) (by assumption) ?_
              try simp only [Act.put, List.getElem_toArray, List.getElem_cons_zero, List.getElem_cons_succ, List.setIfInBounds_toArray, List.set_cons_zero, List.set_cons_succ]
              refine wpAnyH_take (i := 15) (v := undef) rfl (by kernel_rfl) (by kernel_rfl) (by kernel_rfl) (fun _ _ _ h => h) (Or.inr ⟨by rfl, rfl⟩) (by assumption) ?_
              try simp only [Act.put, List.getElem_toArray, List.getElem_cons_zero, List.getElem_cons_succ, List.setIfInBounds_toArray, List.set_cons_zero, List.set_cons_succ]
              refine wpAnyH_take (i := 16) (v := ?_) rfl (by kernel_rfl) (by kernel_rfl) (by kernel_rfl) (fun _ _ _ h => h) (Or.inl ⟨by rfl, ?_⟩) (by assumption) ?_
              rotate_left
              · intro w hSw; (try dsimp only at hSw); (try go_split_ands); go_simp
                all_goals with_reducible rfl
              try simp only [Act.put, List.getElem_toArray, List.getElem_cons_zero, List.getElem_cons_succ, List.setIfInBounds_toArray, List.set_cons_zero, List.set_cons_succ]
              refine wpAnyH_take (i := 17) (v := ?_) rfl (by kernel_rfl) (by kernel_rfl) (by kernel_rfl) (fun _ _ _ h => h) (Or.inl ⟨by rfl, ?_⟩) (by assumption) ?_
              rotate_left
              · intro w hSw; (try dsimp only at hSw); (try go_split_ands); go_simp
                all_goals with_reducible rfl
              try simp only [Act.put, List.getElem_toArray, List.getElem_cons_zero, List.getElem_cons_succ, List.setIfInBounds_toArray, List.set_cons_zero, List.set_cons_succ]
              refine wpAnyH_take (i := 18) (v := ?_) rfl (by kernel_rfl) (by kernel_rfl) (by kernel_rfl) (fun _ _ _ h => h) (Or.inl ⟨by rfl, ?_⟩) (by assumption) ?_
              rotate_left
              · intro w hSw; (try dsimp only at hSw); (try go_split_ands); go_simp
                all_goals with_reducible rfl
              try simp only [Act.put, List.getElem_toArray, List.getElem_cons_zero, List.getElem_cons_succ, List.setIfInBounds_toArray, List.set_cons_zero, List.set_cons_succ]
              refine wpAnyH_take (i := 19) (v := ?_) rfl (by kernel_rfl) (by kernel_rfl) (by kernel_rfl) (fun _ _ _ h => h) (Or.inl ⟨by rfl, ?_⟩) (by assumption) ?_
              rotate_left
              · intro w hSw; (try dsimp only at hSw); (try go_split_ands); go_simp
                all_goals with_reducible rfl
              try simp only [Act.put, List.getElem_toArray, List.getElem_cons_zero, List.getElem_cons_succ, List.setIfInBounds_toArray, List.set_cons_zero, List.set_cons_succ]
              refine wpAnyH_take (i := 21) (v := ?_) rfl (by kernel_rfl) (by kernel_rfl) (by kernel_rfl) (fun _ _ _ h => h) (Or.inl ⟨by rfl, ?_⟩) (by assumption) ?_
              rotate_left
              · intro w hSw; (try dsimp only at hSw); (try go_split_ands); go_simp
                all_goals with_reducible rfl
              try simp only [Act.put, List.getElem_toArray, List.getElem_cons_zero, List.getElem_cons_succ, List.setIfInBounds_toArray, List.set_cons_zero, List.set_cons_succ]
              have hl7 := hide (HSL7.out.keep (F' := (· < y3.heap.size)) (w' := y3) (fun b h => ⟨Nat.lt_of_lt_of_le h hz3.size, hz3.block b h⟩))
              refine wpAnyH_ready (rs := [20]) (by kernel_rfl) (by simp) ?_
              refine AllReadyH.cons rfl (fun K hK => ?_) AllReadyH.nil
              go_simp
              refine (row_n hl7.out (by simp; omega) (by simp)).mono ?_
              rintro e y4 ⟨kLa, sLa, nLa, aLa, mLa, cLa, rfl, hLa, hy4⟩
              rw [row_es HKA.out] at hLa
              have hz4 : Below wc2.heap.size wc2 y4 := hz3.trans (hy4.mono hz3.size)
              have La := hide hLa
              clear hLa
              go_simp
              refine hK.out _ _ ?_ (fun hHeld => ?_)
              · exact HS.out _ hz4
              clear hK K
              refine wpAnyH_ready (rs := [22]) (by kernel_rfl) (by simp) ?_
              refine AllReadyH.cons rfl (fun K hK => ?_) AllReadyH.nil
              go_simp
              refine (same_m La.out (A7.out.below hz4)).mono ?_
              rintro e y5 ⟨rfl, hy5⟩
              rw [same_self]
              have hz5 : Below wc2.heap.size wc2 y5 := hz4.trans (hy5.mono hz4.size)
              go_simp
              refine hK.out _ _ ?_ (fun hHeld => ?_)
              · exact HS.out _ hz5
              clear hK K
              refine wpAnyH_take (i := 23) (v := ?_) rfl (by kernel_rfl) (by kernel_rfl) (by kernel_rfl) (fun _ _ _ h => h) (Or.inl ⟨by rfl, ?_⟩) (by assumption) ?_
              rotate_left
              · intro w hSw; (try dsimp only at hSw); (try go_split_ands); go_simp
                all_goals with_reducible rfl
              try simp only [Act.put, List.getElem_toArray, List.getElem_cons_zero, List.getElem_cons_succ, List.setIfInBounds_toArray, List.set_cons_zero, List.set_cons_succ]
              refine wpAnyH_take (i := 24) (v := ?_) rfl (by kernel_rfl) (by kernel_rfl) (by kernel_rfl) (fun _ _ _ h => h) (Or.inl ⟨by rfl, ?_⟩) (by assumption) ?_
              rotate_left
              · intro w hSw; (try dsimp only at hSw); (try go_split_ands); go_simp
                all_goals with_reducible rfl
              try simp only [Act.put, List.getElem_toArray, List.getElem_cons_zero, List.getElem_cons_succ, List.setIfInBounds_toArray, List.set_cons_zero, List.set_cons_succ]
              refine wpAnyH_take (i := 25) (v := ?_) rfl (by kernel_rfl) (by kernel_rfl) (by kernel_rfl) (fun _ _ _ h => h) (Or.inl ⟨by rfl, ?_⟩) (by assumption) ?_
              rotate_left
              · intro w hSw; (try dsimp only at hSw); (try go_split_ands); go_simp
                all_goals with_reducible rfl
              try simp only [Act.put, List.getElem_toArray, List.getElem_cons_zero, List.getElem_cons_succ, List.setIfInBounds_toArray, List.set_cons_zero, List.set_cons_succ]
              refine wpAnyH_take (i := 26) (v := ?_) rfl (by kernel_rfl) (by kernel_rfl) (by kernel_rfl) (fun _ _ _ h => h) (Or.inl ⟨by rfl, ?_⟩) (by assumption) ?_
              rotate_left
              · intro w hSw; (try dsimp only at hSw); (try go_split_ands); go_simp
                all_goals with_reducible rfl
              try simp only [Act.put, List.getElem_toArray, List.getElem_cons_zero, List.getElem_cons_succ, List.setIfInBounds_toArray, List.set_cons_zero, List.set_cons_succ]
              obtain ⟨y6, hu6⟩ : ∃ u, y5.alloc (.cells #[.int .i64 0, .string ⟨#[]⟩, .int .i64 0, .slice none 0 0, .int .i64 0, .string ⟨#[]⟩, .int .i64 0, .slice none 0 0] 25) = u := ⟨_, rfl⟩
              have hs6 : Below y5.heap.size y5 y6 := hu6 ▸ (Below.refl _ y5).alloc (Nat.le_refl _) _
              have SE := hide (isl_lit (IsRow.two (is_empty (w := y5)) (is_empty (w := y5))) (by simp [maxLen]))
              have HU6 := hide hu6
              clear hu6
              have hz6 : Below wc2.heap.size wc2 y6 := hz5.trans (hs6.mono hz5.size)
              refine wpAnyH_ready (rs := [27]) (by kernel_rfl) (by simp) ?_
              refine AllReadyH.cons rfl (fun K hK => ?_) AllReadyH.nil
              go_simp
              rw [HU6.out]
              rw [HU6.out] at SE
              refine hK.out _ _ ?_ (fun hHeld => ?_)
              · exact HS.out _ hz6
              clear hK K
              refine wpAnyH_ready (rs := [28]) (by kernel_rfl) (by simp) ?_
              refine AllReadyH.cons rfl (fun K hK => ?_) AllReadyH.nil
              go_simp
              refine (row_n (ds := [e0, e0]) SE.out (by simp) (by simp)).mono ?_
              rintro e y7 ⟨kLe, sLe, nLe, aLe, mLe, cLe, rfl, hLe, hy7⟩
              rw [row_ee] at hLe
              obtain rfl := kind_0 hLe
              have hf0 := field0 0 sLe nLe aLe mLe cLe
              have hz7 : Below wc2.heap.size wc2 y7 := hz6.trans (hy7.mono hz6.size)
              have Le := hide hLe
              clear hLe
              go_simp
              refine hK.out _ _ ?_ (fun hHeld => ?_)
              · exact HS.out _ hz7
              clear hK K
              refine wpAnyH_take (i := 29) (v := ?_) rfl (by kernel_rfl) (by kernel_rfl) (by kernel_rfl) (fun _ _ _ h => h) (Or.inl ⟨by rfl, ?_⟩) (by assumption) ?_
              rotate_left
              · intro w hSw; (try dsimp only at hSw); (try go_split_ands); go_simp
                all_goals with_reducible rfl
              try simp only [Act.put, List.getElem_toArray, List.getElem_cons_zero, List.getElem_cons_succ, List.setIfInBounds_toArray, List.set_cons_zero, List.set_cons_succ]
              refine wpAnyH_take (i := 30) (v := ?_) rfl (by kernel_rfl) (by kernel_rfl) (by kernel_rfl) (fun _ _ _ h => h) (Or.inl ⟨by rfl, ?_⟩) (by assumption) ?_
              rotate_left
              · intro w hSw; (try dsimp only at hSw); (try go_split_ands); go_simp
                all_goals with_reducible rfl
              try simp only [Act.put, List.getElem_toArray, List.getElem_cons_zero, List.getElem_cons_succ, List.setIfInBounds_toArray, List.set_cons_zero, List.set_cons_succ]
              refine wpAnyH_take (i := 31) (v := ?_) rfl (by kernel_rfl) (by kernel_rfl) (by kernel_rfl) (fun _ _ _ h => h) (Or.inl ⟨by rfl, ?_⟩) (by assumption) ?_
              rotate_left
              · intro w hSw; (try dsimp only at hSw); (try go_split_ands); go_simp
                all_goals with_reducible rfl
              try simp only [Act.put, List.getElem_toArray, List.getElem_cons_zero, List.getElem_cons_succ, List.setIfInBounds_toArray, List.set_cons_zero, List.set_cons_succ]
              refine wpAnyH_take (i := 32) (v := ?_) rfl (by kernel_rfl) (by kernel_rfl) (by kernel_rfl) (fun _ _ _ h => h) (Or.inl ⟨by rfl, ?_⟩) (by assumption) ?_
              rotate_left
              · intro w hSw; (try dsimp only at hSw); (try go_split_ands); go_simp
                all_goals with_reducible rfl
              try simp only [Act.put, List.getElem_toArray, List.getElem_cons_zero, List.getElem_cons_succ, List.setIfInBounds_toArray, List.set_cons_zero, List.set_cons_succ]
              refine wpAnyH_take (i := 33) (v := ?_) rfl (by kernel_rfl) (by kernel_rfl) (by kernel_rfl) (fun _ _ _ h => h) (Or.inl ⟨by rfl, ?_⟩) (by assumption) ?_
              rotate_left
              · intro w hSw; (try dsimp only at hSw); (try go_split_ands); go_simp
                all_goals with_reducible rfl
              try simp only [Act.put, List.getElem_toArray, List.getElem_cons_zero, List.getElem_cons_succ, List.setIfInBounds_toArray, List.set_cons_zero, List.set_cons_succ]
              refine wpAnyH_take (i := 36) (v := ?_) rfl (by kernel_rfl) (by kernel_rfl) (by kernel_rfl) (fun _ _ _ h => h) (Or.inl ⟨by rfl, ?_⟩) (by assumption) ?_
              rotate_left
              · intro w hSw; (try dsimp only at hSw); (try go_split_ands); go_simp
                all_goals with_reducible rfl
              try simp only [Act.put, List.getElem_toArray, List.getElem_cons_zero, List.getElem_cons_succ, List.setIfInBounds_toArray, List.set_cons_zero, List.set_cons_succ]
              obtain ⟨y8, hu8⟩ : ∃ u, y7.alloc (.cells #[.int .i64 k1, .string s1, .int .i64 n1, .slice a1 m1 c1] 25) = u := ⟨_, rfl⟩
              have hs8 : Below y7.heap.size y7 y8 := hu8 ▸ (Below.refl _ y7).alloc (Nat.le_refl _) _
              have SA := hide (isl_lit (IsRow.one (A7.out.below hz7)) (by simp [maxLen]))
              have HU8 := hide hu8
              clear hu8
              have hz8 : Below wc2.heap.size wc2 y8 := hz7.trans (hs8.mono hz7.size)
              refine wpAnyH_ready (rs := [34]) (by kernel_rfl) (by simp) ?_
              refine AllReadyH.cons rfl (fun K hK => ?_) AllReadyH.nil
              go_simp
              rw [HU8.out]
              rw [HU8.out] at SA
              refine hK.out _ _ ?_ (fun hHeld => ?_)
              · exact HS.out _ hz8
              clear hK K
              refine wpAnyH_ready (rs := [35]) (by kernel_rfl) (by simp) ?_
              refine AllReadyH.cons rfl (fun K hK => ?_) AllReadyH.nil
              go_simp
              refine (row_n SA.out (by simp) (by simp)).mono ?_
              rintro e y9 ⟨kLb, sLb, nLb, aLb, mLb, cLb, rfl, hLb, hy9⟩
              rw [row_1 HKA.out] at hLb
              have hz9 : Below wc2.heap.size wc2 y9 := hz8.trans (hy9.mono hz8.size)
              have Lb := hide hLb
              clear hLb
              go_simp
              refine hK.out _ _ ?_ (fun hHeld => ?_)
              · exact HS.out _ hz9
              clear hK K
              refine wpAnyH_ready (rs := [37]) (by kernel_rfl) (by simp) ?_
              refine AllReadyH.cons rfl (fun K hK => ?_) AllReadyH.nil
              go_simp
              refine (same_m Lb.out (A7.out.below hz9)).mono ?_
              rintro e y10 ⟨rfl, hy10⟩
              rw [same_self]
              have hz10 : Below wc2.heap.size wc2 y10 := hz9.trans (hy10.mono hz9.size)
              go_simp
              refine hK.out _ _ ?_ (fun hHeld => ?_)
              · exact HS.out _ hz10
              clear hK K
              refine wpAnyH_take (i := 38) (v := ?_) rfl (by kernel_rfl) (by kernel_rfl) (by kernel_rfl) (fun _ _ _ h => h) (Or.inl ⟨by rfl, ?_⟩) (by assumption) ?_
              rotate_left
              · intro w hSw; (try dsimp only at hSw); (try go_split_ands); go_simp
                all_goals with_reducible rfl
              try simp only [Act.put, List.getElem_toArray, List.getElem_cons_zero, List.getElem_cons_succ, List.setIfInBounds_toArray, List.set_cons_zero, List.set_cons_succ]
              refine wpAnyH_take (i := 39) (v := ?_) rfl (by kernel_rfl) (by kernel_rfl) (by kernel_rfl) (fun _ _ _ h => h) (Or.inl ⟨by rfl, ?_⟩) (by assumption) ?_
              rotate_left
              · intro w hSw; (try dsimp only at hSw); (try go_split_ands); go_simp
                all_goals with_reducible rfl
              try simp only [Act.put, List.getElem_toArray, List.getElem_cons_zero, List.getElem_cons_succ, List.setIfInBounds_toArray, List.set_cons_zero, List.set_cons_succ]
              refine wpAnyH_done (by kernel_rfl) ?_ _
              go_wp2_with fail
              go_ret
              exact ⟨rfl, hwB.trans (hz10.mono hwB.size)⟩
            | true =>
              go_wp2_with fail
              refine wp_region_held_drew (S := fun w' => w'.cell? ⟨w1.heap.size, 0, none⟩ = some (.int .i64 k1) ∧ w'.cell? ⟨w1.heap.size, 1, none⟩ = some (.string s1) ∧ w'.cell? ⟨w1.heap.size, 2, none⟩ = some (.int .i64 n1) ∧ w'.cell? ⟨w1.heap.size, 3, none⟩ = some (.slice a1 m1 c1) ∧ w'.cell? ⟨w3.heap.size, 0, none⟩ = some (.int .i64 k2) ∧ w'.cell? ⟨w3.heap.size, 1, none⟩ = some (.string s2) ∧ w'.cell? ⟨w3.heap.size, 2, none⟩ = some (.int .i64 n2) ∧ w'.cell? ⟨w3.heap.size, 3, none⟩ = some (.slice a2 m2 c2) ∧ w'.cell? ⟨g11, 0, none⟩ = some (.int .i64 kx) ∧ w'.cell? ⟨g11, 1, none⟩ = some (.string sx) ∧ w'.cell? ⟨g11, 2, none⟩ = some (.int .i64 nx) ∧ w'.cell? ⟨g11, 3, none⟩ = some (.slice ax mx cx) ∧ w'.cell? ⟨g12, 0, none⟩ = some (.int .i64 ky) ∧ w'.cell? ⟨g12, 1, none⟩ = some (.string sy) ∧ w'.cell? ⟨g12, 2, none⟩ = some (.int .i64 ny) ∧ w'.cell? ⟨g12, 3, none⟩ = some (.slice ay my cy)) (by kernel_rfl) ?_ (fun hHeld => ?_)
              · exact ⟨p0, p1, p2, p3, q0, q1, q2, q3, r0, r1, r2, r3, t0, t1, t2, t3⟩
              rw [hwc2] at hHeld ⊢
              refine wpAnyH_ready (rs := [0]) (by kernel_rfl) (by simp) ?_
              refine AllReadyH.cons rfl (fun K hK => ?_) AllReadyH.nil
              go_simp
              refine (known_any wc2).mono ?_
              rintro e y1 ⟨rfl, hy1⟩
              have hz1 : Below wc2.heap.size wc2 y1 := (Below.refl wc2.heap.size wc2).trans (hy1.mono (Below.refl wc2.heap.size wc2).size)
              go_simp
              refine hK.out _ _ ?_ (fun hHeld => ?_)
              · exact HS.out _ hz1
              clear hK K
              refine wpAnyH_take (i := 1) (v := ?_) rfl (by kernel_rfl) (by kernel_rfl) (by kernel_rfl) (fun _ _ _ h => h) (Or.inl ⟨by rfl, ?_⟩) (by assumption) ?_
              rotate_left
              · intro w hSw; (try dsimp only at hSw); (try go_split_ands); go_simp
                all_goals with_reducible rfl
              try simp only [Act.put, List.getElem_toArray, List.getElem_cons_zero, List.getElem_cons_succ, List.setIfInBounds_toArray, List.set_cons_zero, List.set_cons_succ]
              refine wpAnyH_take (i := 2) (v := ?_) rfl (by kernel_rfl) (by kernel_rfl) (by kernel_rfl) (fun _ _ _ h => h) (Or.inl ⟨by rfl, ?_⟩) (by assumption) ?_
              rotate_left
              · intro w hSw; (try dsimp only at hSw); (try go_split_ands); go_simp
                all_goals with_reducible rfl
              try simp only [Act.put, List.getElem_toArray, List.getElem_cons_zero, List.getElem_cons_succ, List.setIfInBounds_toArray, List.set_cons_zero, List.set_cons_succ]
              refine wpAnyH_ready (rs := [3]) (by kernel_rfl) (by simp) ?_
              refine AllReadyH.cons rfl (fun K hK => ?_) AllReadyH.nil
              go_simp
              refine (right_m (A7.out.below hz1)).mono ?_
              rintro e y2 ⟨rfl, hy2⟩
              rw [ha]
              have hz2 : Below wc2.heap.size wc2 y2 := hz1.trans (hy2.mono hz1.size)
              go_simp
              refine hK.out _ _ ?_ (fun hHeld => ?_)
              · exact HS.out _ hz2
              clear hK K
              refine wpAnyH_take (i := 4) (v := ?_) rfl (by kernel_rfl) (by kernel_rfl) (by kernel_rfl) (fun _ _ _ h => h) (Or.inl ⟨by rfl, ?_⟩) (by assumption) ?_
              rotate_left
              · intro w hSw; (try dsimp only at hSw); (try go_split_ands); go_simp
                all_goals with_reducible rfl
              try simp only [Act.put, List.getElem_toArray, List.getElem_cons_zero, List.getElem_cons_succ, List.setIfInBounds_toArray, List.set_cons_zero, List.set_cons_succ]
              refine wpAnyH_take (i := 5) (v := ?_) rfl (by kernel_rfl) (by kernel_rfl) (by kernel_rfl) (fun _ _ _ h => h) (Or.inl ⟨by rfl, ?_⟩) (by assumption) ?_
              rotate_left
              · intro w hSw; (try dsimp only at hSw); (try go_split_ands); go_simp
                all_goals with_reducible rfl
              try simp only [Act.put, List.getElem_toArray, List.getElem_cons_zero, List.getElem_cons_succ, List.setIfInBounds_toArray, List.set_cons_zero, List.set_cons_succ]
              refine wpAnyH_take (i := 6) (v := ?_) rfl (by kernel_rfl) (by kernel_rfl) (by kernel_rfl) (fun _ _ _ h => h) (Or.inl ⟨by rfl, ?_⟩) (by assumption) ?_
              rotate_left
              · intro w hSw; (try dsimp only at hSw); (try go_split_ands); go_simp
                all_goals with_reducible rfl
              try simp only [Act.put, List.getElem_toArray, List.getElem_cons_zero, List.getElem_cons_succ, List.setIfInBounds_toArray, List.set_cons_zero, List.set_cons_succ]
              refine wpAnyH_ready (rs := [7]) (by kernel_rfl) (by simp) ?_
              refine AllReadyH.cons rfl (fun K hK => ?_) AllReadyH.nil
              go_simp
              refine (right_m (B7.out.below hz2)).mono ?_
              rintro e y3 ⟨rfl, hy3⟩
              rw [hb]
              have hz3 : Below wc2.heap.size wc2 y3 := hz2.trans (hy3.mono hz2.size)
              go_simp
              refine hK.out _ _ ?_ (fun hHeld => ?_)
              · exact HS.out _ hz3
              clear hK K
              refine wpAnyH_take (i := 8) (v := ?_) rfl (by kernel_rfl) (by kernel_rfl) (by kernel_rfl) (fun _ _ _ h => h) (Or.inl ⟨by rfl, ?_⟩) (by assumption) ?_
              rotate_left
              · intro w hSw; (try dsimp only at hSw); (try go_split_ands); go_simp
                all_goals with_reducible rfl
              try simp only [Act.put, List.getElem_toArray, List.getElem_cons_zero, List.getElem_cons_succ, List.setIfInBounds_toArray, List.set_cons_zero, List.set_cons_succ]
              refine wpAnyH_take (i := 9) (v := ?_) rfl (by kernel_rfl) (by kernel_rfl) (by kernel_rfl) (fun _ _ _ h => h) (Or.inl ⟨by rfl, ?_⟩) (by assumption) ?_
              rotate_left
              · intro w hSw; (try dsimp only at hSw); (try go_split_ands); go_simp
                all_goals with_reducible rfl
              try simp only [Act.put, List.getElem_toArray, List.getElem_cons_zero, List.getElem_cons_succ, List.setIfInBounds_toArray, List.set_cons_zero, List.set_cons_succ]
              refine wpAnyH_take (i := 10) (v := ?_) rfl (by kernel_rfl) (by kernel_rfl) (by kernel_rfl) (fun _ _ _ h => h) (Or.inl ⟨by rfl, ?_⟩) (by assumption) ?_
              rotate_left
              · intro w hSw; (try dsimp only at hSw); (try go_split_ands); go_simp
                all_goals with_reducible rfl
              try simp only [Act.put, List.getElem_toArray, List.getElem_cons_zero, List.getElem_cons_succ, List.setIfInBounds_toArray, List.set_cons_zero, List.set_cons_succ]
              refine wpAnyH_take (i := 11) (v := ?_) rfl (by kernel_rfl) (by kernel_rfl) (by kernel_rfl) (fun _ _ _ h => h) (Or.inl ⟨by rfl, ?_⟩) (by assumption) ?_
              rotate_left
              · intro w hSw; (try dsimp only at hSw); (try go_split_ands); go_simp
                all_goals with_reducible rfl
              try simp only [Act.put, List.getElem_toArray, List.getElem_cons_zero, List.getElem_cons_succ, List.setIfInBounds_toArray, List.set_cons_zero, List.set_cons_succ]
              refine wpAnyH_take (i := 13) (v := ?_) rfl (by kernel_rfl) (by kernel_rfl) (by kernel_rfl) (fun _ _ _ h => h) (Or.inl ⟨by rfl, ?_⟩) (by assumption) ?_
              rotate_left
              · intro w hSw; (try dsimp only at hSw); (try go_split_ands); go_simp
                all_goals with_reducible rfl
              try simp only [Act.put, List.getElem_toArray, List.getElem_cons_zero, List.getElem_cons_succ, List.setIfInBounds_toArray, List.set_cons_zero, List.set_cons_succ]
              refine wpAnyH_ready (rs := [12]) (by kernel_rfl) (by simp) ?_
              refine AllReadyH.cons rfl (fun K hK => ?_) AllReadyH.nil
              go_simp
              refine (words_m (X7.out.below hz3) HTX.out).mono ?_
              rintro e y4 ⟨rfl, hy4⟩
              rw [HWX.out]
              have hz4 : Below wc2.heap.size wc2 y4 := hz3.trans (hy4.mono hz3.size)
              go_simp
              refine hK.out _ _ ?_ (fun hHeld => ?_)
              · exact HS.out _ hz4
              clear hK K
              refine wpAnyH_ready (rs := [14]) (by kernel_rfl) (by simp) ?_
              refine AllReadyH.cons rfl (fun K hK => ?_) AllReadyH.nil
              go_simp
              refine (words_m (Y7.out.below hz4) HTY.out).mono ?_
              rintro e y5 ⟨rfl, hy5⟩
              rw [HWY.out]
              have hz5 : Below wc2.heap.size wc2 y5 := hz4.trans (hy5.mono hz4.size)
              go_simp
              refine hK.out _ _ ?_ (fun hHeld => ?_)
              · exact HS.out _ hz5
              clear hK K
              refine wpAnyH_take (i := 15) (v := ?_) rfl (by kernel_rfl) (by kernel_rfl) (by kernel_rfl) (fun _ _ _ h => h) (Or.inl ⟨by rfl, ?_⟩) (by assumption) ?_
              rotate_left
              · intro w hSw; (try dsimp only at hSw); (try go_split_ands); go_simp
                all_goals with_reducible rfl
              try simp only [Act.put, List.getElem_toArray, List.getElem_cons_zero, List.getElem_cons_succ, List.setIfInBounds_toArray, List.set_cons_zero, List.set_cons_succ]
              refine wpAnyH_take (i := 16) (v := ?_) rfl (by kernel_rfl) (by kernel_rfl) (by kernel_rfl) (fun _ _ _ h => h) (Or.inl ⟨by rfl, ?_⟩) (by assumption) ?_
              rotate_left
              · intro w hSw; (try dsimp only at hSw); (try go_split_ands); go_simp
                all_goals with_reducible rfl
              try simp only [Act.put, List.getElem_toArray, List.getElem_cons_zero, List.getElem_cons_succ, List.setIfInBounds_toArray, List.set_cons_zero, List.set_cons_succ]
              refine wpAnyH_take (i := 17) (v := ?_) rfl (by kernel_rfl) (by kernel_rfl) (by kernel_rfl) (fun _ _ _ h => h) (Or.inl ⟨by rfl, ?_⟩) (by assumption) ?_
              rotate_left
              · intro w hSw; (try dsimp only at hSw); (try go_split_ands); go_simp
                all_goals with_reducible rfl
              try simp only [Act.put, List.getElem_toArray, List.getElem_cons_zero, List.getElem_cons_succ, List.setIfInBounds_toArray, List.set_cons_zero, List.set_cons_succ]
              refine wpAnyH_take (i := 18) (v := ?_) rfl (by kernel_rfl) (by kernel_rfl) (by kernel_rfl) (fun _ _ _ h => h) (Or.inl ⟨by rfl, ?_⟩) (by assumption) ?_
              rotate_left
              · intro w hSw; (try dsimp only at hSw); (try go_split_ands); go_simp
                all_goals with_reducible rfl
              try simp only [Act.put, List.getElem_toArray, List.getElem_cons_zero, List.getElem_cons_succ, List.setIfInBounds_toArray, List.set_cons_zero, List.set_cons_succ]
              refine wpAnyH_take (i := 19) (v := ?_) rfl (by kernel_rfl) (by kernel_rfl) (by kernel_rfl) (fun _ _ _ h => h) (Or.inl ⟨by rfl, ?_⟩) (by assumption) ?_
              rotate_left
              · intro w hSw; (try dsimp only at hSw); (try go_split_ands); go_simp
                all_goals with_reducible rfl
              try simp only [Act.put, List.getElem_toArray, List.getElem_cons_zero, List.getElem_cons_succ, List.setIfInBounds_toArray, List.set_cons_zero, List.set_cons_succ]
              refine wpAnyH_take (i := 21) (v := ?_) rfl (by kernel_rfl) (by kernel_rfl) (by kernel_rfl) (fun _ _ _ h => h) (Or.inl ⟨by rfl, ?_⟩) (by assumption) ?_
              rotate_left
              · intro w hSw; (try dsimp only at hSw); (try go_split_ands); go_simp
                all_goals with_reducible rfl
              try simp only [Act.put, List.getElem_toArray, List.getElem_cons_zero, List.getElem_cons_succ, List.setIfInBounds_toArray, List.set_cons_zero, List.set_cons_succ]
              have hl7 := hide (HSL7.out.keep (F' := (· < y5.heap.size)) (w' := y5) (fun b h => ⟨Nat.lt_of_lt_of_le h hz5.size, hz5.block b h⟩))
              refine wpAnyH_ready (rs := [20]) (by kernel_rfl) (by simp) ?_
              refine AllReadyH.cons rfl (fun K hK => ?_) AllReadyH.nil
              go_simp
              refine (row_n hl7.out (by simp; omega) (by simp)).mono ?_
              rintro e y6 ⟨kLa, sLa, nLa, aLa, mLa, cLa, rfl, hLa, hy6⟩
              rw [row_es HKA.out] at hLa
              have hz6 : Below wc2.heap.size wc2 y6 := hz5.trans (hy6.mono hz5.size)
              have La := hide hLa
              clear hLa
              go_simp
              refine hK.out _ _ ?_ (fun hHeld => ?_)
              · exact HS.out _ hz6
              clear hK K
              refine wpAnyH_ready (rs := [22]) (by kernel_rfl) (by simp) ?_
              refine AllReadyH.cons rfl (fun K hK => ?_) AllReadyH.nil
              go_simp
              refine (same_m La.out (A7.out.below hz6)).mono ?_
              rintro e y7 ⟨rfl, hy7⟩
              rw [same_self]
              have hz7 : Below wc2.heap.size wc2 y7 := hz6.trans (hy7.mono hz6.size)
              go_simp
              refine hK.out _ _ ?_ (fun hHeld => ?_)
              · exact HS.out _ hz7
              clear hK K
              refine wpAnyH_take (i := 23) (v := ?_) rfl (by kernel_rfl) (by kernel_rfl) (by kernel_rfl) (fun _ _ _ h => h) (Or.inl ⟨by rfl, ?_⟩) (by assumption) ?_
              rotate_left
              · intro w hSw; (try dsimp only at hSw); (try go_split_ands); go_simp
                all_goals with_reducible rfl
              try simp only [Act.put, List.getElem_toArray, List.getElem_cons_zero, List.getElem_cons_succ, List.setIfInBounds_toArray, List.set_cons_zero, List.set_cons_succ]
              refine wpAnyH_take (i := 24) (v := ?_) rfl (by kernel_rfl) (by kernel_rfl) (by kernel_rfl) (fun _ _ _ h => h) (Or.inl ⟨by rfl, ?_⟩) (by assumption) ?_
              rotate_left
              · intro w hSw; (try dsimp only at hSw); (try go_split_ands); go_simp
                all_goals with_reducible rfl
              try simp only [Act.put, List.getElem_toArray, List.getElem_cons_zero, List.getElem_cons_succ, List.setIfInBounds_toArray, List.set_cons_zero, List.set_cons_succ]
              refine wpAnyH_take (i := 25) (v := ?_) rfl (by kernel_rfl) (by kernel_rfl) (by kernel_rfl) (fun _ _ _ h => h) (Or.inl ⟨by rfl, ?_⟩) (by assumption) ?_
              rotate_left
              · intro w hSw; (try dsimp only at hSw); (try go_split_ands); go_simp
                all_goals with_reducible rfl
              try simp only [Act.put, List.getElem_toArray, List.getElem_cons_zero, List.getElem_cons_succ, List.setIfInBounds_toArray, List.set_cons_zero, List.set_cons_succ]
              refine wpAnyH_take (i := 26) (v := ?_) rfl (by kernel_rfl) (by kernel_rfl) (by kernel_rfl) (fun _ _ _ h => h) (Or.inl ⟨by rfl, ?_⟩) (by assumption) ?_
              rotate_left
              · intro w hSw; (try dsimp only at hSw); (try go_split_ands); go_simp
                all_goals with_reducible rfl
              try simp only [Act.put, List.getElem_toArray, List.getElem_cons_zero, List.getElem_cons_succ, List.setIfInBounds_toArray, List.set_cons_zero, List.set_cons_succ]
              obtain ⟨y8, hu8⟩ : ∃ u, y7.alloc (.cells #[.int .i64 0, .string ⟨#[]⟩, .int .i64 0, .slice none 0 0, .int .i64 0, .string ⟨#[]⟩, .int .i64 0, .slice none 0 0] 25) = u := ⟨_, rfl⟩
              have hs8 : Below y7.heap.size y7 y8 := hu8 ▸ (Below.refl _ y7).alloc (Nat.le_refl _) _
              have SE := hide (isl_lit (IsRow.two (is_empty (w := y7)) (is_empty (w := y7))) (by simp [maxLen]))
              have HU8 := hide hu8
              clear hu8
              have hz8 : Below wc2.heap.size wc2 y8 := hz7.trans (hs8.mono hz7.size)
              refine wpAnyH_ready (rs := [27]) (by kernel_rfl) (by simp) ?_
              refine AllReadyH.cons rfl (fun K hK => ?_) AllReadyH.nil
              go_simp
              rw [HU8.out]
              rw [HU8.out] at SE
              refine hK.out _ _ ?_ (fun hHeld => ?_)
              · exact HS.out _ hz8
              clear hK K
              refine wpAnyH_ready (rs := [28]) (by kernel_rfl) (by simp) ?_
              refine AllReadyH.cons rfl (fun K hK => ?_) AllReadyH.nil
              go_simp
              refine (row_n (ds := [e0, e0]) SE.out (by simp) (by simp)).mono ?_
              rintro e y9 ⟨kLe, sLe, nLe, aLe, mLe, cLe, rfl, hLe, hy9⟩
              rw [row_ee] at hLe
              obtain rfl := kind_0 hLe
              have hf0 := field0 0 sLe nLe aLe mLe cLe
              have hz9 : Below wc2.heap.size wc2 y9 := hz8.trans (hy9.mono hz8.size)
              have Le := hide hLe
              clear hLe
              go_simp
              refine hK.out _ _ ?_ (fun hHeld => ?_)
              · exact HS.out _ hz9
              clear hK K
              refine wpAnyH_take (i := 29) (v := ?_) rfl (by kernel_rfl) (by kernel_rfl) (by kernel_rfl) (fun _ _ _ h => h) (Or.inl ⟨by rfl, ?_⟩) (by assumption) ?_
              rotate_left
              · intro w hSw; (try dsimp only at hSw); (try go_split_ands); go_simp
                all_goals with_reducible rfl
              try simp only [Act.put, List.getElem_toArray, List.getElem_cons_zero, List.getElem_cons_succ, List.setIfInBounds_toArray, List.set_cons_zero, List.set_cons_succ]
              refine wpAnyH_take (i := 30) (v := ?_) rfl (by kernel_rfl) (by kernel_rfl) (by kernel_rfl) (fun _ _ _ h => h) (Or.inl ⟨by rfl, ?_⟩) (by assumption) ?_
              rotate_left
              · intro w hSw; (try dsimp only at hSw); (try go_split_ands); go_simp
                all_goals with_reducible rfl
              try simp only [Act.put, List.getElem_toArray, List.getElem_cons_zero, List.getElem_cons_succ, List.setIfInBounds_toArray, List.set_cons_zero, List.set_cons_succ]
              refine wpAnyH_take (i := 31) (v := ?_) rfl (by kernel_rfl) (by kernel_rfl) (by kernel_rfl) (fun _ _ _ h => h) (Or.inl ⟨by rfl, ?_⟩) (by assumption) ?_
              rotate_left
              · intro w hSw; (try dsimp only at hSw); (try go_split_ands); go_simp
                all_goals with_reducible rfl
              try simp only [Act.put, List.getElem_toArray, List.getElem_cons_zero, List.getElem_cons_succ, List.setIfInBounds_toArray, List.set_cons_zero, List.set_cons_succ]
              refine wpAnyH_take (i := 32) (v := ?_) rfl (by kernel_rfl) (by kernel_rfl) (by kernel_rfl) (fun _ _ _ h => h) (Or.inl ⟨by rfl, ?_⟩) (by assumption) ?_
              rotate_left
              · intro w hSw; (try dsimp only at hSw); (try go_split_ands); go_simp
                all_goals with_reducible rfl
              try simp only [Act.put, List.getElem_toArray, List.getElem_cons_zero, List.getElem_cons_succ, List.setIfInBounds_toArray, List.set_cons_zero, List.set_cons_succ]
              refine wpAnyH_take (i := 33) (v := ?_) rfl (by kernel_rfl) (by kernel_rfl) (by kernel_rfl) (fun _ _ _ h => h) (Or.inl ⟨by rfl, ?_⟩) (by assumption) ?_
              rotate_left
              · intro w hSw; (try dsimp only at hSw); (try go_split_ands); go_simp
                all_goals with_reducible rfl
              try simp only [Act.put, List.getElem_toArray, List.getElem_cons_zero, List.getElem_cons_succ, List.setIfInBounds_toArray, List.set_cons_zero, List.set_cons_succ]
              refine wpAnyH_take (i := 36) (v := ?_) rfl (by kernel_rfl) (by kernel_rfl) (by kernel_rfl) (fun _ _ _ h => h) (Or.inl ⟨by rfl, ?_⟩) (by assumption) ?_
              rotate_left
              · intro w hSw; (try dsimp only at hSw); (try go_split_ands); go_simp
                all_goals with_reducible rfl
              try simp only [Act.put, List.getElem_toArray, List.getElem_cons_zero, List.getElem_cons_succ, List.setIfInBounds_toArray, List.set_cons_zero, List.set_cons_succ]
              obtain ⟨y10, hu10⟩ : ∃ u, y9.alloc (.cells #[.int .i64 k1, .string s1, .int .i64 n1, .slice a1 m1 c1] 25) = u := ⟨_, rfl⟩
              have hs10 : Below y9.heap.size y9 y10 := hu10 ▸ (Below.refl _ y9).alloc (Nat.le_refl _) _
              have SA := hide (isl_lit (IsRow.one (A7.out.below hz9)) (by simp [maxLen]))
              have HU10 := hide hu10
              clear hu10
              have hz10 : Below wc2.heap.size wc2 y10 := hz9.trans (hs10.mono hz9.size)
              refine wpAnyH_ready (rs := [34]) (by kernel_rfl) (by simp) ?_
              refine AllReadyH.cons rfl (fun K hK => ?_) AllReadyH.nil
              go_simp
              rw [HU10.out]
              rw [HU10.out] at SA
              refine hK.out _ _ ?_ (fun hHeld => ?_)
              · exact HS.out _ hz10
              clear hK K
              refine wpAnyH_ready (rs := [35]) (by kernel_rfl) (by simp) ?_
              refine AllReadyH.cons rfl (fun K hK => ?_) AllReadyH.nil
              go_simp
              refine (row_n SA.out (by simp) (by simp)).mono ?_
              rintro e y11 ⟨kLb, sLb, nLb, aLb, mLb, cLb, rfl, hLb, hy11⟩
              rw [row_1 HKA.out] at hLb
              have hz11 : Below wc2.heap.size wc2 y11 := hz10.trans (hy11.mono hz10.size)
              have Lb := hide hLb
              clear hLb
              go_simp
              refine hK.out _ _ ?_ (fun hHeld => ?_)
              · exact HS.out _ hz11
              clear hK K
              refine wpAnyH_ready (rs := [37]) (by kernel_rfl) (by simp) ?_
              refine AllReadyH.cons rfl (fun K hK => ?_) AllReadyH.nil
              go_simp
              refine (same_m Lb.out (A7.out.below hz11)).mono ?_
              rintro e y12 ⟨rfl, hy12⟩
              rw [same_self]
              have hz12 : Below wc2.heap.size wc2 y12 := hz11.trans (hy12.mono hz11.size)
              go_simp
              refine hK.out _ _ ?_ (fun hHeld => ?_)
              · exact HS.out _ hz12
              clear hK K
              refine wpAnyH_take (i := 38) (v := ?_) rfl (by kernel_rfl) (by kernel_rfl) (by kernel_rfl) (fun _ _ _ h => h) (Or.inl ⟨by rfl, ?_⟩) (by assumption) ?_
              rotate_left
              · intro w hSw; (try dsimp only at hSw); (try go_split_ands); go_simp
                all_goals with_reducible rfl
              try simp only [Act.put, List.getElem_toArray, List.getElem_cons_zero, List.getElem_cons_succ, List.setIfInBounds_toArray, List.set_cons_zero, List.set_cons_succ]
              refine wpAnyH_take (i := 39) (v := ?_) rfl (by kernel_rfl) (by kernel_rfl) (by kernel_rfl) (fun _ _ _ h => h) (Or.inl ⟨by rfl, ?_⟩) (by assumption) ?_
              rotate_left
              · intro w hSw; (try dsimp only at hSw); (try go_split_ands); go_simp
                all_goals with_reducible rfl
              try simp only [Act.put, List.getElem_toArray, List.getElem_cons_zero, List.getElem_cons_succ, List.setIfInBounds_toArray, List.set_cons_zero, List.set_cons_succ]
              refine wpAnyH_done (by kernel_rfl) ?_ _
              go_wp2_with fail
              go_ret
              exact ⟨rfl, hwB.trans (hz12.mono hwB.size)⟩
end Go.Proofs.Ytggbocimapdidaa
