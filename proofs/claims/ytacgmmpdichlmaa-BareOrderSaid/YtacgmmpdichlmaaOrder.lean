/-
  The walk of BareOrder: it gives true.
  Its condition: the slice reads as bytes.
-/
import Derived.Test.YtacgmmpdichlmaaN35
import Derived.Test.YtacgmmpdichlmaaN37
import Derived.Test.YtacgmmpdichlmaaN28
import Derived.Test.YtacgmmpdichlmaaTk
namespace Go.Proofs.Ytacgmmpdichlmaa
open Go.RowKit
attribute [local go_sem ↓] Go.wp_at_zero Go.wp_at_succ

theorem greedy_step {A B : List (List Int)} {q j : Nat} (hq : q < A.length) (hj : j < B.length) : greedy (A.drop q) (B.drop j) = if A[q] = B[j] then greedy (A.drop (q + 1)) (B.drop (j + 1)) + 1 else greedy (A.drop (q + 1)) (B.drop j) := by
  rw [List.drop_eq_getElem_cons hq, List.drop_eq_getElem_cons hj, greedy, ← List.drop_eq_getElem_cons hj]
theorem greedy_end {A B : List (List Int)} (h : A = [] ∨ B = []) : greedy A B = 0 := by
  cases B with
  | nil => cases A <;> rfl
  | cons b B =>
    rcases h with rfl | h
    · rfl
    · cases h
set_option maxRecDepth 100000 in
set_option maxHeartbeats 8000000 in
theorem order_any (a : Option Addr) (m cap : Nat) (c : List Int) (w : World) (hI : IsBytes w (· < w.heap.size) a m c) (hcap : m ≤ cap) : Calls Try.prog 3 #[.slice a m cap] w (Says true w) := by
  have HT := hide (parsed_any a m cap c w hI hcap)
  clear hI
  go_enter Try.func3, Try.ntmps3
  go_wp2_with fail
  refine HT.out.mono ?_
  rintro e w1 ⟨⟨d, kd, sd, yd, md, cd, ok, rfl, hn1, hcnt⟩, hb1⟩
  have HN1 := hide hn1
  have HB1 := hide hb1
  clear hn1 hb1 HT
  have hcnt9 : d.count ≤ 900000 := by omega
  go_wp2_with fail
  refine named fun W1 hW1 => ?_
  have HS1 := onS hW1 (((St.nil w).call HB1.out).va)
  have HD1 := hide (show Is W1 d (.agg #[.int .i64 kd, .string sd, .slice yd md cd]) from hW1 ▸ IsNd.keep (fun b hb => ⟨by simp; have := hb.2; omega, Below.heap_alloc w1 _ b hb.2⟩) _ _ HN1.out)
  clear hW1 HN1 HB1
  refine (paths_any d _ W1 HD1.out hcnt9).mono ?_
  rintro e w2 ⟨la, lc, rfl, hp2, hb2⟩
  have HS2 := hide (HS1.out.call hb2)
  have HD2 := hide (HD1.out.below hb2)
  have HPA := hide (show IsPaths w2 (· < w2.heap.size) (.slice la (pathsN d).length lc) (pathsN d) from hp2.keep fun b hb => ⟨hb.2, rfl⟩)
  have p0 := rD HS2
  clear hp2 hb2 HS1 HD1
  go_wp2_with fail
  refine (brackets_any (w := w2) HD2.out hcnt9).mono ?_
  rintro e w7 ⟨ba, bc, rfl, hp7, hb7⟩
  have HS7 := hide (HS2.out.call hb7)
  have HPB := hide (show IsPaths w7 (· < w7.heap.size) (.slice ba (bracksN d).length bc) (bracksN d) from hp7.keep fun b hb => ⟨hb.2, rfl⟩)
  have HPA7 := hide (HPA.out.keep fun b hb => ⟨Nat.lt_of_lt_of_le hb hb7.size, hb7.block b hb⟩)
  have hord := bracks_order d
  obtain ⟨A, hA⟩ : ∃ A, pathsN d = A := ⟨_, rfl⟩
  obtain ⟨B, hB⟩ : ∃ B, bracksN d = B := ⟨_, rfl⟩
  rw [hA] at HPA7 hord ⊢
  rw [hB] at HPB hord ⊢
  have hAl : A.length ≤ 900000 := by rw [← hA, pathsN_len]; omega
  have hBl : B.length ≤ A.length := by rw [← hA, ← hB, bracks_filter]; exact List.length_filter_le _ _
  clear hA hB hp7 hb7 HS2 HD2 HPA p0 hcnt hcnt9
  go_wp2_with fail
  go_loopw [7, 8] (fun k i wr => ∃ q j : Nat, q ≤ A.length ∧ j ≤ B.length ∧ i = .int .i64 q ∧ k = .int .i64 j ∧ j + greedy (A.drop q) (B.drop j) = B.length ∧ Below w.heap.size w wr ∧ Below w7.heap.size w7 wr) (fun _ i _ => A.length - (intOf i).toNat)
  case atStart => exact ⟨0, 0, Nat.zero_le _, Nat.zero_le _, rfl, rfl, by simpa using hord, HS7.out.below, Below.refl _ _⟩
  case round =>
    obtain ⟨q, j, hq, hj, rfl, rfl, hg, hbw, hb7⟩ := hrel
    have hzw := hbw.size
    have hz7 := hb7.size
    have HG := hide hg
    clear hg hord
    by_cases hlt : q < A.length
    · have hlti : (q : Int) < (A.length : Int) := by omega
      by_cases hjt : j < B.length
      · have hjti : (j : Int) < (B.length : Int) := by omega
        obtain ⟨lb, lo, u, rfl, hlb, gl, hup⟩ := HPA7.out.get hlt
        obtain ⟨rb, ro, v, rfl, hrb, gr, hvp⟩ := HPB.out.get hjt
        have hgs := greedy_step hlt hjt
        obtain ⟨X, hX⟩ : ∃ X, A[q] = X := ⟨_, rfl⟩
        obtain ⟨Y, hY⟩ : ∃ Y, B[j] = Y := ⟨_, rfl⟩
        rw [hX] at hup hgs
        rw [hY] at hvp hgs
        obtain ⟨ua, uc, rfl, -, -⟩ := id hup
        obtain ⟨va, vc, rfl, -, -⟩ := id hvp
        have HGS := hide hgs
        have g1 := (hb7.cell (p := ⟨lb, lo + q, none⟩) hlb).trans gl
        have g2 := (hb7.cell (p := ⟨rb, ro + j, none⟩) hrb).trans gr
        have HX := hide (hup.keep (w' := wr) (F' := (· < wr.heap.size)) fun b hb => ⟨Nat.lt_of_lt_of_le hb hz7, hb7.block b hb⟩)
        have HY := hide (hvp.keep (w' := wr) (F' := (· < wr.heap.size)) fun b hb => ⟨Nat.lt_of_lt_of_le hb hz7, hb7.block b hb⟩)
        clear hX hY hup hvp hgs gl gr
        have HBW := hide hbw
        have HB7 := hide hb7
        clear hbw hb7
        go_wp2_with fail
        obtain ⟨bb, hbb⟩ : ∃ bb, decide ([X] = [Y]) = bb := ⟨_, rfl⟩
        have HBB := hide hbb
        clear hbb
        refine wp_region_held_drew (S := fun w' => w'.cell? ⟨lb, lo + q, none⟩ = some (.slice ua X.length uc) ∧ w'.cell? ⟨rb, ro + j, none⟩ = some (.slice va Y.length vc)) (by kernel_rfl) ⟨g1, g2⟩ (fun hSn => ?_)
        have hb3 : Below wr.heap.size wr wr.drew := bl_dr (Below.refl _ wr)
        have HX3 := hide (HX.out.below hb3)
        have HY3 := hide (HY.out.below hb3)
        have HBW3 := hide (HBW.out.trans (hb3.mono hzw))
        have HB73 := hide (HB7.out.trans (hb3.mono hz7))
        have hz73 := HB73.out.size
        have hzw3 := HBW3.out.size
        revert HX3 HY3 HBW3 HB73 hSn hz73 hzw3
        generalize wr.drew = W3
        intro hSn HX3 HY3 HBW3 HB73 hz73 hzw3
        clear hb3 HX HY HBW HB7 g1 g2
        refine tC 0 hSn ?_
        refine tC 1 hSn ?_
        refine tC 2 hSn ?_
        refine tC 3 hSn ?_
        refine tC 5 hSn ?_
        refine tC 6 hSn ?_
        refine tC 7 hSn ?_
        refine tC 8 hSn ?_
        refine rY2 4 9 (fun K hK => ?_) (fun K hK => ?_)
        ·
          go_simp
          refine onW hK ⟨alloc_cell (by omega) hSn.1 _, alloc_cell (by omega) hSn.2 _⟩ fun W4 hW4 => ?_
          clear hK K
          subst hW4
          refine rY 9 fun K hK => ?_
          go_simp
          have hL := lit_two HX3.out HY3.out
          have hb5 : Below W3.heap.size W3 ((W3.alloc (.cells #[.slice ua X.length uc] 31)).alloc (.cells #[.slice va Y.length vc] 31)) := ((Below.refl _ W3).alloc (Nat.le_refl _) _).alloc (by simp) _
          have h5 := alloc_cell (by simp; omega) (alloc_cell (by omega) hSn.1 (.cells #[.slice ua X.length uc] 31)) (.cells #[.slice va Y.length vc] 31)
          have k5 := alloc_cell (by simp; omega) (alloc_cell (by omega) hSn.2 (.cells #[.slice ua X.length uc] 31)) (.cells #[.slice va Y.length vc] 31)
          refine onW hK ⟨h5, k5⟩ fun W5 hW5 => ?_
          clear hK K
          rw [← hW5] at hL hb5 h5 k5
          have hz6 := hb5.size
          have HEQ := hide (eqPaths_any hL.1 hL.2)
          have HBW5 := hide (HBW3.out.trans (hb5.mono hzw3))
          have HB75 := hide (HB73.out.trans (hb5.mono hz73))
          clear hL hW5 HX3 HY3 HBW3 HB73
          refine rY 10 fun K hK => ?_
          go_simp
          refine HEQ.out.mono ?_
          rintro e w8 ⟨rfl, hb8⟩
          rw [HBB.out]
          go_simp
          refine onK hK ⟨(hb8.cell (p := ⟨lb, lo + q, none⟩) (by show lb < _; omega)).trans h5, (hb8.cell (p := ⟨rb, ro + j, none⟩) (by show rb < _; omega)).trans k5⟩ ?_
          clear hK K
          have HBW8 := hide (HBW5.out.trans (hb8.mono HBW5.out.size))
          have HB78 := hide (HB75.out.trans (hb8.mono HB75.out.size))
          clear h5 k5 hb8 hb5
          refine wpAnyH_done (by kernel_rfl) ?_ _
          cases bb
          · have hxy : ¬ X = Y := by
              have h1 := of_decide_eq_false HBB.out
              intro e
              subst e
              exact h1 rfl
            have hg2 : j + greedy (A.drop (q + 1)) (B.drop j) = B.length := by
              have h1 := HG.out
              rw [HGS.out, if_neg hxy] at h1
              exact h1
            have HG2 := hide hg2
            clear hg2 hxy
            go_wp2_with fail
            exact ⟨⟨q + 1, j, by omega, hj, by go_num, rfl, HG2.out, HBW8.out, HB78.out⟩, by simp [intOf]; omega⟩
          · have hxy : X = Y := by
              have h1 := of_decide_eq_true HBB.out
              simpa using h1
            have hg2 : j + 1 + greedy (A.drop (q + 1)) (B.drop (j + 1)) = B.length := by
              have h1 := HG.out
              rw [HGS.out, if_pos hxy] at h1
              omega
            have HG2 := hide hg2
            clear hg2 hxy
            go_wp2_with fail
            exact ⟨⟨q + 1, j + 1, by omega, by omega, by go_num, by go_num, HG2.out, HBW8.out, HB78.out⟩, by simp [intOf]; omega⟩
        ·
          go_simp
          refine onW hK ⟨alloc_cell (by omega) hSn.1 _, alloc_cell (by omega) hSn.2 _⟩ fun W4 hW4 => ?_
          clear hK K
          subst hW4
          refine rY 4 fun K hK => ?_
          go_simp
          have hL := lit_two HY3.out HX3.out
          have hb5 : Below W3.heap.size W3 ((W3.alloc (.cells #[.slice va Y.length vc] 31)).alloc (.cells #[.slice ua X.length uc] 31)) := ((Below.refl _ W3).alloc (Nat.le_refl _) _).alloc (by simp) _
          have h5 := alloc_cell (by simp; omega) (alloc_cell (by omega) hSn.1 (.cells #[.slice va Y.length vc] 31)) (.cells #[.slice ua X.length uc] 31)
          have k5 := alloc_cell (by simp; omega) (alloc_cell (by omega) hSn.2 (.cells #[.slice va Y.length vc] 31)) (.cells #[.slice ua X.length uc] 31)
          refine onW hK ⟨h5, k5⟩ fun W5 hW5 => ?_
          clear hK K
          rw [← hW5] at hL hb5 h5 k5
          have hz6 := hb5.size
          have HEQ := hide (eqPaths_any hL.2 hL.1)
          have HBW5 := hide (HBW3.out.trans (hb5.mono hzw3))
          have HB75 := hide (HB73.out.trans (hb5.mono hz73))
          clear hL hW5 HX3 HY3 HBW3 HB73
          refine rY 10 fun K hK => ?_
          go_simp
          refine HEQ.out.mono ?_
          rintro e w8 ⟨rfl, hb8⟩
          rw [HBB.out]
          go_simp
          refine onK hK ⟨(hb8.cell (p := ⟨lb, lo + q, none⟩) (by show lb < _; omega)).trans h5, (hb8.cell (p := ⟨rb, ro + j, none⟩) (by show rb < _; omega)).trans k5⟩ ?_
          clear hK K
          have HBW8 := hide (HBW5.out.trans (hb8.mono HBW5.out.size))
          have HB78 := hide (HB75.out.trans (hb8.mono HB75.out.size))
          clear h5 k5 hb8 hb5
          refine wpAnyH_done (by kernel_rfl) ?_ _
          cases bb
          · have hxy : ¬ X = Y := by
              have h1 := of_decide_eq_false HBB.out
              intro e
              subst e
              exact h1 rfl
            have hg2 : j + greedy (A.drop (q + 1)) (B.drop j) = B.length := by
              have h1 := HG.out
              rw [HGS.out, if_neg hxy] at h1
              exact h1
            have HG2 := hide hg2
            clear hg2 hxy
            go_wp2_with fail
            exact ⟨⟨q + 1, j, by omega, hj, by go_num, rfl, HG2.out, HBW8.out, HB78.out⟩, by simp [intOf]; omega⟩
          · have hxy : X = Y := by
              have h1 := of_decide_eq_true HBB.out
              simpa using h1
            have hg2 : j + 1 + greedy (A.drop (q + 1)) (B.drop (j + 1)) = B.length := by
              have h1 := HG.out
              rw [HGS.out, if_pos hxy] at h1
              omega
            have HG2 := hide hg2
            clear hg2 hxy
            go_wp2_with fail
            exact ⟨⟨q + 1, j + 1, by omega, by omega, by go_num, by go_num, HG2.out, HBW8.out, HB78.out⟩, by simp [intOf]; omega⟩
      · have hjti : ¬ (j : Int) < (B.length : Int) := by omega
        have hje : (j : Int) = (B.length : Int) := by omega
        go_wp2_with fail
        refine (known_any wr).mono ?_
        rintro e w9 ⟨rfl, hb9⟩
        go_wp2_with fail
        go_ret
        exact ⟨by simp, hbw.trans (hb9.mono hzw)⟩
    · have hlti : ¬ (q : Int) < (A.length : Int) := by omega
      have hje : (j : Int) = (B.length : Int) := by
        have := HG.out
        rw [greedy_end (Or.inl (List.drop_eq_nil_of_le (by omega)))] at this
        omega
      go_wp2_with fail
      refine (known_any wr).mono ?_
      rintro e w9 ⟨rfl, hb9⟩
      go_wp2_with fail
      go_ret
      exact ⟨by simp, hbw.trans (hb9.mono hzw)⟩
end Go.Proofs.Ytacgmmpdichlmaa
