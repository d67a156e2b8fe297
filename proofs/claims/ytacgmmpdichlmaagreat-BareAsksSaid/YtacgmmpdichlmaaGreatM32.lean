/-
  The reference's Brackets: the paths of brackets. Its conditions: the value reads as a node, of at most 900000 nodes.
-/
import Derived.Test.YtacgmmpdichlmaaGreatM03
import Derived.Test.YtacgmmpdichlmaaGreatM05
import Derived.Test.YtacgmmpdichlmaaGreatM27
namespace Go.Proofs.YtacgmmpdichlmaaGreat
open Go.RowKit
attribute [local go_sem ↓] Go.wp_at_zero Go.wp_at_succ

/-- Those of the first q paths that lead to brackets. -/
def brk (d : Nd) (L : List (List Int)) (q : Nat) : List (List Int) := (L.take q).filter fun p => (atN p d).any Nd.br
theorem brk_step {d x : Nd} {L : List (List Int)} {q : Nat} (h : q < L.length) (hx : atN L[q] d = some x) : brk d L (q + 1) = brk d L q ++ if x.br then [L[q]] else [] := by
  unfold brk
  rw [List.take_succ_eq_append_getElem h, List.filter_append]
  congr 1
  rw [List.filter_cons, List.filter_nil, hx]
  rfl
theorem brk_len (d : Nd) (L : List (List Int)) (q : Nat) : (brk d L q).length ≤ L.length := by
  unfold brk
  exact Nat.le_trans (List.length_filter_le _ _) (by rw [List.length_take]; omega)
set_option maxRecDepth 100000 in
set_option maxHeartbeats 8000000 in
theorem refBracks_any {d : Nd} {v : Value} {w : World} (hD : Is w d v) (hcnt : d.count ≤ 900000) : Calls Tryz.prog 27 #[v] w (PathsP w (bracksN d)) := by
  obtain ⟨k, s, y, m, c, rfl⟩ := hD.form
  have HD := hide hD
  clear hD
  go_enter Tryz.func27, Tryz.ntmps27
  go_wp2_with fail
  refine named fun W1 hW1 => ?_
  have HS1 := onS hW1 (St.nil w).va
  clear hW1
  refine (paths_any d _ W1 (HD.out.below HS1.out.below) hcnt).mono ?_
  rintro e w2 ⟨la, lc, rfl, hp2, hb2⟩
  have HS2 := hide (HS1.out.call hb2)
  have hlen := pathsN_len d
  have hbf := bracks_filter d
  have hmem := mem_paths d
  obtain ⟨L, hL⟩ : ∃ L, pathsN d = L := ⟨_, rfl⟩
  rw [hL] at hp2 hlen hbf hmem ⊢
  have hl9 : L.length ≤ 900000 := by omega
  obtain ⟨B, hB⟩ : ∃ B, bracksN d = B := ⟨_, rfl⟩
  have HBF := hide (show brk d L L.length = B by rw [← hB, hbf, brk, List.take_length])
  have HBB := hide hB
  have HME := hide hmem
  have HL := hide (show IsPaths w2 (fun b => W1.heap.size ≤ b ∧ b < w2.heap.size) (.slice la L.length lc) L from hp2.keep fun b hb => ⟨hb, rfl⟩)
  have HP := hide (PHeld.nil w.heap.size w2)
  have hz12 := hb2.size
  have hzw1 := HS1.out.below.size
  clear hp2 hb2 HS1 hL hB hbf hmem hlen
  go_wp2_with fail
  go_loopw [3, 5] (fun ov iv wr => ∃ (q : Nat) (a : Option Addr) (n c' : Nat), ov = .slice a n c' ∧ iv = .int .i64 q ∧ q ≤ L.length ∧ w2.heap.size ≤ wr.heap.size ∧ St w wr [ne w.heap.size k s y m c] ∧ PHeld w.heap.size (.slice a n c') (brk d L q) wr ∧ IsPaths wr (fun b => W1.heap.size ≤ b ∧ b < w2.heap.size) (.slice la L.length lc) L ∧ (∀ g, (Value.slice a n c').ownBlock = some g → w2.heap.size ≤ g)) (fun _ iv _ => L.length - (intOf iv).toNat)
  case atStart => exact ⟨0, none, 0, 0, rfl, rfl, Nat.zero_le _, Nat.le_refl _, HS2.out, by simpa [brk] using HP.out, HL.out, fun g h => by simp [Value.ownBlock] at h⟩
  case round =>
    obtain ⟨q, a, n, c', rfl, rfl, hq, hzr, hS, hP, hLr, hown⟩ := hrel
    have HSr := hide hS
    have HPr := hide hP
    have HLr := hide hLr
    have HOW := hide hown
    clear hS hP hLr hown HS2 HP HL
    by_cases hlt : q < L.length
    · have hlti : (q : Int) < (L.length : Int) := by omega
      obtain ⟨lb, lo, u, rfl, hlb, gl, hup⟩ := HLr.out.get hlt
      obtain ⟨x, hat⟩ := Option.isSome_iff_exists.1 ((HME.out L[q]).1 (List.getElem_mem hlt))
      have hst := brk_step hlt hat
      have hbl := brk_len d L q
      have hcx : IsPath wr (fun b => W1.heap.size ≤ b ∧ b < w2.heap.size) u L[q] := hup
      obtain ⟨X, hX⟩ : ∃ X, L[q] = X := ⟨_, rfl⟩
      rw [hX] at hat hst hcx
      obtain ⟨ua, uc, rfl, -, -⟩ := id hcx
      have HST := hide hst
      have HX := hide hcx
      have HO := hide hat
      have lv0 := (HSr.out.get 0 rfl).lt
      have hlbr : lb < wr.heap.size := Nat.lt_of_lt_of_le hlb.2 hzr
      have hlb2 := hlb.2
      have HG := hide gl
      have HKS := hide (show ∀ W : World, Below wr.heap.size wr W → (W.cell? ⟨w.heap.size, 0, none⟩ = some (.int .i64 k) ∧ W.cell? ⟨w.heap.size, 1, none⟩ = some (.string s) ∧ W.cell? ⟨w.heap.size, 2, none⟩ = some (.slice y m c) ∧ W.cell? ⟨lb, lo + q, none⟩ = some (.slice ua X.length uc)) from fun W h => ⟨(h.cell (p := ⟨w.heap.size, 0, none⟩) lv0).trans ((HSr.out.get 0 rfl).cell 0), (h.cell (p := ⟨w.heap.size, 1, none⟩) lv0).trans ((HSr.out.get 0 rfl).cell 1), (h.cell (p := ⟨w.heap.size, 2, none⟩) lv0).trans ((HSr.out.get 0 rfl).cell 2), (h.cell (p := ⟨lb, lo + q, none⟩) hlbr).trans HG.out⟩)
      clear hst hcx hat hup hX gl
      go_wp2_with fail
      refine rgC (fun W => W.cell? ⟨w.heap.size, 0, none⟩ = some (.int .i64 k) ∧ W.cell? ⟨w.heap.size, 1, none⟩ = some (.string s) ∧ W.cell? ⟨w.heap.size, 2, none⟩ = some (.slice y m c) ∧ W.cell? ⟨lb, lo + q, none⟩ = some (.slice ua X.length uc)) (HKS.out _ (bl_dr (Below.refl _ wr))) fun W2 hW2 => ?_
      have hb12 : Below wr.heap.size wr W2 := hW2 ▸ bl_dr (Below.refl _ wr)
      have HS2 := hide (St.onto hW2 HSr.out.dr)
      have hSn := HKS.out _ hb12
      have HFB := hide (fun (q : Nat) (hq : q < w.heap.size) => Nat.lt_of_lt_of_le hq HS2.out.below.size)
      have HXW := hide (show ∀ W : World, Below wr.heap.size wr W → IsPath W (fun b => W1.heap.size ≤ b ∧ b < w2.heap.size) (.slice ua X.length uc) X from fun W h => HX.out.keep fun b hb => ⟨hb, h.block b (Nat.lt_of_lt_of_le hb.2 hzr)⟩)
      clear hW2 HSr HG
      refine tC 0 hSn ?_
      refine tC 1 hSn ?_
      refine tC 2 hSn ?_
      refine tC 3 hSn ?_
      refine tC 4 hSn ?_
      clear hSn
      refine rY2 5 9 (fun K hK => ?_) (fun K hK => ?_)
      ·
        go_simp
        refine (HO.out ▸ refAtF_any (w := W2) (F := (· < w.heap.size)) (IsNd.keep (fun q hq => ⟨hq, HS2.out.below.block q hq⟩) _ _ HD.out) (fun q hq => Nat.lt_of_lt_of_le hq HS2.out.below.size) ((HXW.out W2 hb12).keep fun q hq => ⟨by have := hq.2; have := hb12.size; omega, rfl⟩)).mono ?_
        intro e w3 hat3
        obtain ⟨k5, s5, y5, m5, c5, rfl, hn3, hb3⟩ := hat3.form2
        have HS3 := hide (HS2.out.call hb3)
        have hz32 := hb3.size
        have hb13 := hb12.trans (hb3.mono hb12.size)
        have hSn := HKS.out _ hb13
        clear hat3 HS2
        go_simp
        refine onK hK hSn ?_
        clear hK K
        refine tC 6 hSn ?_
        refine tC 7 hSn ?_
        refine tC 8 hSn ?_
        clear hSn
        refine rY 9 fun K hK => ?_
        go_simp
        refine onW hK (HKS.out _ (bl_al hb13 _)) fun W4 hW4 => ?_
        clear hK K
        have HS4 := onS hW4 HS3.out.va
        have hb14 : Below wr.heap.size wr W4 := hW4 ▸ bl_al hb13 _
        have hz4 : W4.heap.size = w3.heap.size + 1 := by rw [hW4]; simp
        have hk4 : ∀ q, q < w3.heap.size → W4.heap[q]? = w3.heap[q]? := fun q hq => hW4 ▸ Below.heap_alloc w3 _ q hq
        have hg3 := hb13.size
        clear hW4 HS3
        refine rY 10 fun K hK => ?_
        have p3 := (HS4.out.get 1 rfl).see3
        go_simp
        refine onW hK (HKS.out _ (bl_st3 hb14 hg3 _ _ _)) fun Wf hWf => ?_
        clear hK K p3
        have HSf := onS hWf (HS4.out.st3 1 rfl _ _ _)
        have HN := hide (show ∀ m, some x = some m → IsNd Wf (fun q => (q < w.heap.size ∨ (wr.heap.size ≤ q ∧ q < Wf.heap.size)) ∧ q ≠ w3.heap.size) m (.agg #[.int .i64 k5, .string s5, .slice y5 m5 c5]) from fun m hm => IsNd.keep (fun q hq => by
          have hq2 := (show q < w.heap.size ∨ (W2.heap.size ≤ q ∧ q < w3.heap.size) from Or.inl hq)
          have hq4 : q < w3.heap.size := hq2.elim (fun h => Nat.lt_of_lt_of_le (HFB.out q h) hz32) (fun h => h.2)
          have hz2 := hb12.size
          refine ⟨⟨hq2.imp id fun h => ⟨by omega, by rw [hWf]; simp; omega⟩, by omega⟩, ?_⟩
          rw [hWf]
          exact (heap_st3 (by omega) _ _ _).trans (hk4 q hq4)) _ _ (hn3 m hm))
        have hbf : Below wr.heap.size wr Wf := hWf ▸ bl_st3 hb14 hg3 _ _ _
        have hgf := hg3
        have hSn := HKS.out Wf hbf
        clear hWf HS4 hn3 hb3 hk4
        refine tC 11 hSn ?_
        clear hSn
        refine wpAnyH_done (by kernel_rfl) ?_ _
        have HPf := hide (HPr.out.below hbf)
        have HLf := hide (HLr.out.keep fun q hq => ⟨hq, hbf.block q (Nat.lt_of_lt_of_le hq.2 hzr)⟩)
        have HXf := hide (HXW.out Wf hbf)
        have hSf := HKS.out Wf hbf
        have hzf := hbf.size
        have HBR := hide (refBracket_any (HN.out x rfl))
        have p3 := (HSf.out.get 1 rfl).see3
        have HLB := hide (show lb < Wf.heap.size by omega)
        clear HPr HLr HKS HXW HX
        go_wp2_with fail
        refine HBR.out.mono ?_
        rintro e w8 ⟨rfl, hb8⟩
        have HS8 := hide (HSf.out.call hb8)
        have HP8 := hide (HPf.out.below hb8)
        have hz8 := hb8.size
        have HL8 := hide (HLf.out.keep fun q hq => ⟨hq, hb8.block q (by have := hq.2; omega)⟩)
        have HX8 := hide (HXf.out.keep fun q hq => ⟨hq, hb8.block q (by have := hq.2; omega)⟩)
        have g8 := (hb8.cell (p := ⟨lb, lo + q, none⟩) HLB.out).trans hSf.2.2.2
        have HST2 := hide HST.out
        clear HPf HLf HXf hb8 HSf HBR p3 hSf HN
        cases hbr : x.br with
        | false =>
          have hst2 := HST2.out
          rw [hbr, if_neg (by decide), List.append_nil] at hst2
          have HP9 := hide (hst2.symm ▸ HP8.out)
          clear hst2 hbr HP8
          go_wp2_with fail
          exact ⟨⟨q + 1, _, _, _, rfl, by go_num, by omega, by omega, HS8.out.cut 1 rfl, HP9.out, HL8.out, HOW.out⟩, by simp [intOf]; omega⟩
        | true =>
          have hst2 := HST2.out
          rw [hbr, if_pos rfl] at hst2
          obtain ⟨a4, c4, w4, hr4, hP4, hb4, hg4, ⟨xs4, hx4⟩, hbl4⟩ := HP8.out.snoc (HX8.out.keep fun b hb => ⟨⟨by omega, by have := hb.2; omega, fun e => by have h1 := HOW.out b e; have := hb.2; omega⟩, rfl⟩) (by omega) HS8.out.below.size
          have HS9 := hide (HS8.out.phg hg4 hx4 (by simp))
          rw [← hst2] at hP4
          have hnn : (brk d L q).length = n := by
            obtain ⟨a5, c5, hf5⟩ := HP8.out.form
            simp only [Value.slice.injEq] at hf5
            exact hf5.2.1.symm
          rw [hnn] at hr4 hP4 hbl4
          have hL4 : IsPaths w4 (fun b => W1.heap.size ≤ b ∧ b < w2.heap.size) (.slice (some ⟨lb, lo, none⟩) L.length lc) L := HL8.out.keep fun b hb => ⟨hb, hg4.block b (by have := hb.2; omega) (fun e => by
            have h1 := HOW.out b e.symm
            have h2 := hb.2
            omega)⟩
          have hN4 : ∀ g, (Value.slice a4 (n + 1) c4).ownBlock = some g → w2.heap.size ≤ g := fun g hg => by
            rcases hbl4 g hg with h | h
            · exact HOW.out g h
            · omega
          have HP4 := hide hP4
          have HL4 := hide hL4
          have HN4 := hide hN4
          have hz4 := hg4.size
          clear hP4 hL4 hN4 hb4 hg4 hx4 hbl4 hnn HP8 HL8 hst2 hbr
          go_wp2_with (first | (at_builtin; refine wpList_app rfl _ _ (by rfl) (by rfl) (by rfl) (by rfl) hr4 ?_))
          exact ⟨⟨q + 1, _, _, _, rfl, by go_num, by omega, by omega, HS9.out.cut 1 rfl, HP4.out, HL4.out, HN4.out⟩, by simp [intOf]; omega⟩
      ·
        go_simp
        refine onW hK (HKS.out _ (bl_al hb12 _)) fun W3 hW3 => ?_
        clear hK K
        have HS3 := onS hW3 HS2.out.va
        have hb13 : Below wr.heap.size wr W3 := hW3 ▸ bl_al hb12 _
        have hz3 : W3.heap.size = W2.heap.size + 1 := by rw [hW3]; simp
        have hg2 := hb12.size
        clear hW3 HS2
        refine rY 5 fun K hK => ?_
        go_simp
        refine (HO.out ▸ refAtF_any (w := W3) (F := (· < w.heap.size)) (IsNd.keep (fun q hq => ⟨hq, HS3.out.below.block q hq⟩) _ _ HD.out) (fun q hq => Nat.lt_of_lt_of_le hq HS3.out.below.size) ((HXW.out W3 hb13).keep fun q hq => ⟨by have := hq.2; have := hb13.size; omega, rfl⟩)).mono ?_
        intro e w4 hat4
        obtain ⟨k5, s5, y5, m5, c5, rfl, hn4, hb4⟩ := hat4.form2
        have HS4 := hide (HS3.out.call hb4)
        have hb14 := hb13.trans (hb4.mono hb13.size)
        have hSn := HKS.out _ hb14
        clear hat4 HS3
        go_simp
        refine onK hK hSn ?_
        clear hK K
        refine tC 6 hSn ?_
        refine tC 7 hSn ?_
        refine tC 8 hSn ?_
        clear hSn
        refine rY 10 fun K hK => ?_
        have p3 := (HS4.out.get 1 rfl).see3
        go_simp
        refine onW hK (HKS.out _ (bl_st3 hb14 hg2 _ _ _)) fun Wf hWf => ?_
        clear hK K p3
        have HSf := onS hWf (HS4.out.st3 1 rfl _ _ _)
        have HN := hide (show ∀ m, some x = some m → IsNd Wf (fun q => (q < w.heap.size ∨ (wr.heap.size ≤ q ∧ q < Wf.heap.size)) ∧ q ≠ W2.heap.size) m (.agg #[.int .i64 k5, .string s5, .slice y5 m5 c5]) from fun m hm => IsNd.keep (fun q hq => by
          have hq2 := (show q < w.heap.size ∨ (W3.heap.size ≤ q ∧ q < w4.heap.size) from Or.inl hq)
          have hq4 : q ≠ W2.heap.size := hq2.elim (fun h => Nat.ne_of_lt (HFB.out q h)) (fun h => by omega)
          refine ⟨⟨hq2.imp id fun h => ⟨by omega, by rw [hWf]; simp; omega⟩, hq4⟩, ?_⟩
          rw [hWf]
          exact heap_st3 hq4 _ _ _) _ _ (hn4 m hm))
        have hbf : Below wr.heap.size wr Wf := hWf ▸ bl_st3 hb14 hg2 _ _ _
        have hgf := hg2
        have hSn := HKS.out Wf hbf
        clear hWf HS4 hn4 hb4
        refine tC 11 hSn ?_
        clear hSn
        refine wpAnyH_done (by kernel_rfl) ?_ _
        have HPf := hide (HPr.out.below hbf)
        have HLf := hide (HLr.out.keep fun q hq => ⟨hq, hbf.block q (Nat.lt_of_lt_of_le hq.2 hzr)⟩)
        have HXf := hide (HXW.out Wf hbf)
        have hSf := HKS.out Wf hbf
        have hzf := hbf.size
        have HBR := hide (refBracket_any (HN.out x rfl))
        have p3 := (HSf.out.get 1 rfl).see3
        have HLB := hide (show lb < Wf.heap.size by omega)
        clear HPr HLr HKS HXW HX
        go_wp2_with fail
        refine HBR.out.mono ?_
        rintro e w8 ⟨rfl, hb8⟩
        have HS8 := hide (HSf.out.call hb8)
        have HP8 := hide (HPf.out.below hb8)
        have hz8 := hb8.size
        have HL8 := hide (HLf.out.keep fun q hq => ⟨hq, hb8.block q (by have := hq.2; omega)⟩)
        have HX8 := hide (HXf.out.keep fun q hq => ⟨hq, hb8.block q (by have := hq.2; omega)⟩)
        have g8 := (hb8.cell (p := ⟨lb, lo + q, none⟩) HLB.out).trans hSf.2.2.2
        have HST2 := hide HST.out
        clear HPf HLf HXf hb8 HSf HBR p3 hSf HN
        cases hbr : x.br with
        | false =>
          have hst2 := HST2.out
          rw [hbr, if_neg (by decide), List.append_nil] at hst2
          have HP9 := hide (hst2.symm ▸ HP8.out)
          clear hst2 hbr HP8
          go_wp2_with fail
          exact ⟨⟨q + 1, _, _, _, rfl, by go_num, by omega, by omega, HS8.out.cut 1 rfl, HP9.out, HL8.out, HOW.out⟩, by simp [intOf]; omega⟩
        | true =>
          have hst2 := HST2.out
          rw [hbr, if_pos rfl] at hst2
          obtain ⟨a4, c4, w4, hr4, hP4, hb4, hg4, ⟨xs4, hx4⟩, hbl4⟩ := HP8.out.snoc (HX8.out.keep fun b hb => ⟨⟨by omega, by have := hb.2; omega, fun e => by have h1 := HOW.out b e; have := hb.2; omega⟩, rfl⟩) (by omega) HS8.out.below.size
          have HS9 := hide (HS8.out.phg hg4 hx4 (by simp))
          rw [← hst2] at hP4
          have hnn : (brk d L q).length = n := by
            obtain ⟨a5, c5, hf5⟩ := HP8.out.form
            simp only [Value.slice.injEq] at hf5
            exact hf5.2.1.symm
          rw [hnn] at hr4 hP4 hbl4
          have hL4 : IsPaths w4 (fun b => W1.heap.size ≤ b ∧ b < w2.heap.size) (.slice (some ⟨lb, lo, none⟩) L.length lc) L := HL8.out.keep fun b hb => ⟨hb, hg4.block b (by have := hb.2; omega) (fun e => by
            have h1 := HOW.out b e.symm
            have h2 := hb.2
            omega)⟩
          have hN4 : ∀ g, (Value.slice a4 (n + 1) c4).ownBlock = some g → w2.heap.size ≤ g := fun g hg => by
            rcases hbl4 g hg with h | h
            · exact HOW.out g h
            · omega
          have HP4 := hide hP4
          have HL4 := hide hL4
          have HN4 := hide hN4
          have hz4 := hg4.size
          clear hP4 hL4 hN4 hb4 hg4 hx4 hbl4 hnn HP8 HL8 hst2 hbr
          go_wp2_with (first | (at_builtin; refine wpList_app rfl _ _ (by rfl) (by rfl) (by rfl) (by rfl) hr4 ?_))
          exact ⟨⟨q + 1, _, _, _, rfl, by go_num, by omega, by omega, HS9.out.cut 1 rfl, HP4.out, HL4.out, HN4.out⟩, by simp [intOf]; omega⟩
    · have hlti : ¬ (q : Int) < (L.length : Int) := by omega
      obtain rfl : q = L.length := by omega
      have hP := HPr.out
      rw [HBF.out] at hP
      have HPx := hide hP
      clear hP HPr
      go_wp2_with fail
      go_ret
      obtain ⟨a5, c5, hf5⟩ := HPx.out.form
      have hPo := HPx.out.out
      cases hf5
      obtain rfl := HBB.out
      exact ⟨_, _, rfl, hPo, HSr.out.below⟩
end Go.Proofs.YtacgmmpdichlmaaGreat
