/-
  Pick of the law: some node.
  Its conditions: the slice reads as bytes, the number is a byte.
-/
import Derived.Test.YtacgmmpdichlmaaGreatM40
import Derived.Test.YtacgmmpdichlmaaGreatM36
namespace Go.Proofs.YtacgmmpdichlmaaGreat
open Go.RowKit
attribute [local go_sem ↓] Go.wp_at_zero Go.wp_at_succ

/-- Some node of its own. -/
def PickP (w : World) (e : Ending) (w' : World) : Prop := ∃ d : Nd, d.count ≤ 600000 ∧ NdNew w d e w'
set_option maxRecDepth 100000 in
set_option maxHeartbeats 8000000 in
theorem pick_any (a : Option Addr) (m cap : Nat) (c : List Int) (k : Int) (w : World) (hI : IsBytes w (· < w.heap.size) a m c) (hcap : m ≤ cap) (hk0 : 0 ≤ k) (hk1 : k ≤ 255) : Calls Tryz.prog 16 #[.slice a m cap, .int .u8 k] w (PickP w) := by
  have HI := hide hI
  clear hI
  go_enter Tryz.func16, Tryz.ntmps16
  go_wp2_with fail
  refine named fun Wa hWa => ?_
  have HSa := onS hWa (St.nil w).va
  clear hWa
  refine (parsed_any a m cap c Wa (HI.out.below HSa.out.below) hcap).mono ?_
  rintro e w2 ⟨⟨d, k2, s2, y2, m2, c2, ok, rfl, hn2, hcnt⟩, hb2⟩
  have HS2 := hide (HSa.out.call hb2)
  have HN2 := hide (show IsNd w2 (fun q => Wa.heap.size ≤ q ∧ q < w2.heap.size) d _ from hn2)
  have hza := HSa.out.below.size
  have hla := (HSa.out.get 0 rfl).lt
  have hz2 := hb2.size
  clear hn2 hb2 HSa
  have hcnt9 : d.count ≤ 900000 := by omega
  have p0 := rD HS2
  go_wp2_with fail
  have lv2 := lV HS2
  refine named fun W3 hW3 => ?_
  have HS3 := onS hW3 HS2.out.va
  have hb3 : Below w2.heap.size w2 W3 := hW3 ▸ (Below.refl _ w2).alloc (Nat.le_refl _) _
  have hz3 : w2.heap.size + 1 = W3.heap.size := by rw [hW3]; simp
  have HN3 := hide (IsNd.keep (fun q hq => ⟨hq, hb3.block q hq.2⟩) _ _ HN2.out)
  clear hW3 hb3 HS2 HN2 p0 lv2
  refine (paths_any d _ W3 (IsNd.keep (fun q hq => ⟨by have := hq.2; omega, rfl⟩) _ _ HN3.out) hcnt9).mono ?_
  rintro e Wd ⟨la, lc, rfl, hp4, hb4⟩
  have HS4 := hide (HS3.out.call hb4)
  have hz4 := hb4.size
  have HN4 := hide (IsNd.keep (fun q hq => ⟨hq, hb4.block q (by have := hq.2; omega)⟩) _ _ HN3.out)
  have hpos : 0 < (pathsN d).length := by rw [pathsN_len]; exact count_pos d
  have hmem := mem_paths d
  obtain ⟨B, hB⟩ : ∃ B, pathsN d = B := ⟨_, rfl⟩
  have hb9 : B.length ≤ 900000 := by rw [← hB, pathsN_len]; exact hcnt9
  rw [hB] at hp4 hpos hmem ⊢
  have h0 : ¬ B.length = 0 := by omega
  have HME := hide hmem
  have HL4 := hide (IsPaths.of_new hp4)
  clear hp4 hb4 HS3 HN3 hB hmem
  obtain ⟨q, hq, hqn⟩ : ∃ q : Nat, k % (B.length : Int) = (q : Int) ∧ q < B.length := by
    have h1 := Int.emod_nonneg k (b := (B.length : Int)) (by omega)
    have h2 := Int.emod_lt_of_pos k (b := (B.length : Int)) (by omega)
    exact ⟨(k % (B.length : Int)).toNat, by omega, by omega⟩
  obtain ⟨lb, lo, uu, rfl, hlb, gl, hup⟩ := HL4.out.get hqn
  obtain ⟨x, hat⟩ := Option.isSome_iff_exists.1 ((HME.out B[q]).1 (List.getElem_mem hqn))
  obtain ⟨P, hP⟩ : ∃ P, B[q] = P := ⟨_, rfl⟩
  rw [hP] at hup hat
  obtain ⟨pa, pc, rfl, -, -⟩ := id hup
  have hxc := at_count P d x hat
  have HO := hide hat
  have hqt : k.tmod (B.length : Int) = (q : Int) := by rw [Int.tmod_eq_emod_of_nonneg hk0, hq]
  have ew1 : IntKind.i64.wrap k = k := IntWalk.i64_in _ (by omega)
  have ew2 : IntKind.i64.wrap (q : Int) = q := IntWalk.i64_in _ (by omega)
  have eq1 : (q : Int) < (B.length : Int) := by omega
  have eL0 : ¬ (B.length : Int) = 0 := by omega
  have HXp := hide (fun (V : World) (h : Below Wd.heap.size Wd V) => IsPath.below (show IsPath Wd (· < Wd.heap.size) (.slice pa P.length pc) P from hup) h)
  have HG := hide gl
  have HNp := hide (fun (V : World) (h : Below Wd.heap.size Wd V) => (IsNd.keep (fun q hq => ⟨hq, h.block q (by have := hq.2; omega)⟩) _ _ HN4.out : IsNd V (fun q => Wa.heap.size ≤ q ∧ q < w2.heap.size) d (.agg #[.int .i64 k2, .string s2, .slice y2 m2 c2])))
  clear hP hup gl hat
  go_wp2_with fail
  have HKS := hide (show ∀ W : World, Below Wd.heap.size Wd W → (W.cell? ⟨w2.heap.size, 0, none⟩ = some (.int .i64 k2) ∧ W.cell? ⟨w2.heap.size, 1, none⟩ = some (.string s2) ∧ W.cell? ⟨w2.heap.size, 2, none⟩ = some (.slice y2 m2 c2) ∧ W.cell? ⟨lb, lo + q, none⟩ = some (.slice pa P.length pc)) from fun W h => ⟨(h.cell (p := ⟨w2.heap.size, 0, none⟩) (HS4.out.get 1 rfl).lt).trans ((HS4.out.get 1 rfl).cell 0), (h.cell (p := ⟨w2.heap.size, 1, none⟩) (HS4.out.get 1 rfl).lt).trans ((HS4.out.get 1 rfl).cell 1), (h.cell (p := ⟨w2.heap.size, 2, none⟩) (HS4.out.get 1 rfl).lt).trans ((HS4.out.get 1 rfl).cell 2), (h.cell (p := ⟨lb, lo + q, none⟩) hlb).trans HG.out⟩)
  refine rgC (fun W => W.cell? ⟨w2.heap.size, 0, none⟩ = some (.int .i64 k2) ∧ W.cell? ⟨w2.heap.size, 1, none⟩ = some (.string s2) ∧ W.cell? ⟨w2.heap.size, 2, none⟩ = some (.slice y2 m2 c2) ∧ W.cell? ⟨lb, lo + q, none⟩ = some (.slice pa P.length pc)) (HKS.out _ (bl_dr (Below.refl _ Wd))) fun W2 hW2 => ?_
  have hb12 : Below Wd.heap.size Wd W2 := hW2 ▸ bl_dr (Below.refl _ Wd)
  have HS2 := hide (St.onto hW2 HS4.out.dr)
  have hSn := HKS.out _ hb12
  have HFB := hide (fun (q : Nat) (hq : Wa.heap.size ≤ q ∧ q < w2.heap.size) => (by have h1 := hb12.size; have h2 := hq.2; omega : q < W2.heap.size))
  clear hW2 HS4 HG
  refine tC 0 hSn ?_
  refine tC 1 hSn ?_
  refine tC 2 hSn ?_
  refine tC 3 hSn ?_
  refine tC 4 hSn ?_
  refine tC 5 hSn ?_
  refine tC 6 hSn ?_
  refine tC 7 hSn ?_
  refine tC 8 hSn ?_
  clear hSn
  refine rY2 9 13 (fun K hK => ?_) (fun K hK => ?_)
  ·
    go_simp
    refine (HO.out ▸ refAtF_any (w := W2) (HNp.out _ hb12) (fun q hq => by have h1 := hb12.size; have h2 := hq.2; omega) (HXp.out _ hb12)).mono ?_
    intro e w3 hat3
    obtain ⟨k5, s5, y5, m5, c5, rfl, hn3, hb3⟩ := hat3.form2
    have HS3 := hide (HS2.out.call hb3)
    have hz32 := hb3.size
    have hb13 := hb12.trans (hb3.mono hb12.size)
    have hSn := HKS.out _ hb13
    clear hat3 HS2
    go_simp
    refine onK hK hSn ?_
    clear hK K
    refine tC 10 hSn ?_
    refine tC 11 hSn ?_
    refine tC 12 hSn ?_
    clear hSn
    refine rY 13 fun K hK => ?_
    go_simp
    refine onW hK (HKS.out _ (bl_al hb13 _)) fun W4 hW4 => ?_
    clear hK K
    have HS4 := onS hW4 HS3.out.va
    have hb14 : Below Wd.heap.size Wd W4 := hW4 ▸ bl_al hb13 _
    have hz4 : W4.heap.size = w3.heap.size + 1 := by rw [hW4]; simp
    have hk4 : ∀ q, q < w3.heap.size → W4.heap[q]? = w3.heap[q]? := fun q hq => hW4 ▸ Below.heap_alloc w3 _ q hq
    have hg3 := hb13.size
    clear hW4 HS3
    refine rY 14 fun K hK => ?_
    have p3 := (HS4.out.get 2 rfl).see3
    go_simp
    refine onW hK (HKS.out _ (bl_st3 hb14 hg3 _ _ _)) fun Wf hWf => ?_
    clear hK K p3
    have HSf := onS hWf (HS4.out.st3 2 rfl _ _ _)
    have HN := hide (show ∀ m, some x = some m → IsNd Wf (fun q => ((Wa.heap.size ≤ q ∧ q < w2.heap.size) ∨ (Wd.heap.size ≤ q ∧ q < Wf.heap.size)) ∧ q ≠ w3.heap.size) m (.agg #[.int .i64 k5, .string s5, .slice y5 m5 c5]) from fun m hm => IsNd.keep (fun q hq => by
      have hq2 := (show (Wa.heap.size ≤ q ∧ q < w2.heap.size) ∨ (W2.heap.size ≤ q ∧ q < w3.heap.size) from Or.inl hq)
      have hq4 : q < w3.heap.size := hq2.elim (fun h => Nat.lt_of_lt_of_le (HFB.out q h) hz32) (fun h => h.2)
      have hz2 := hb12.size
      refine ⟨⟨hq2.imp id fun h => ⟨by omega, by rw [hWf]; simp; omega⟩, by omega⟩, ?_⟩
      rw [hWf]
      exact (heap_st3 (by omega) _ _ _).trans (hk4 q hq4)) _ _ (hn3 m hm))
    have hbf : Below Wd.heap.size Wd Wf := hWf ▸ bl_st3 hb14 hg3 _ _ _
    have hgf := hg3
    have hSn := HKS.out Wf hbf
    clear hWf HS4 hn3 hb3 hk4
    refine tC 15 hSn ?_
    clear hSn
    refine wpAnyH_done (by kernel_rfl) ?_ _
    have q0 := (HSf.out.get 0 rfl).see3
    have q2 := (HSf.out.get 2 rfl).see3
    have l2 := (HSf.out.get 2 rfl).lt
    have hzf := hbf.size
    go_wp2_with fail
    exact ended_n rfl rfl ((HSf.out.st3 0 rfl _ _ _).get 0 rfl) ⟨x, by omega, _, _, _, _, _, rfl, IsNd.keep (fun q hq => by
      have hq1 := hq.1
      exact ⟨⟨by omega, by simp; omega⟩, heap_st3 (by omega) _ _ _⟩) _ _ (HN.out x rfl), (HSf.out.st3 0 rfl _ _ _).below⟩
  ·
    go_simp
    refine onW hK (HKS.out _ (bl_al hb12 _)) fun W3 hW3 => ?_
    clear hK K
    have HS3 := onS hW3 HS2.out.va
    have hb13 : Below Wd.heap.size Wd W3 := hW3 ▸ bl_al hb12 _
    have hz3 : W3.heap.size = W2.heap.size + 1 := by rw [hW3]; simp
    have hg2 := hb12.size
    clear hW3 HS2
    refine rY 9 fun K hK => ?_
    go_simp
    refine (HO.out ▸ refAtF_any (w := W3) (HNp.out _ hb13) (fun q hq => by have h1 := hb13.size; have h2 := hq.2; omega) (HXp.out _ hb13)).mono ?_
    intro e w4 hat4
    obtain ⟨k5, s5, y5, m5, c5, rfl, hn4, hb4⟩ := hat4.form2
    have HS4 := hide (HS3.out.call hb4)
    have hb14 := hb13.trans (hb4.mono hb13.size)
    have hSn := HKS.out _ hb14
    clear hat4 HS3
    go_simp
    refine onK hK hSn ?_
    clear hK K
    refine tC 10 hSn ?_
    refine tC 11 hSn ?_
    refine tC 12 hSn ?_
    clear hSn
    refine rY 14 fun K hK => ?_
    have p3 := (HS4.out.get 2 rfl).see3
    go_simp
    refine onW hK (HKS.out _ (bl_st3 hb14 hg2 _ _ _)) fun Wf hWf => ?_
    clear hK K p3
    have HSf := onS hWf (HS4.out.st3 2 rfl _ _ _)
    have HN := hide (show ∀ m, some x = some m → IsNd Wf (fun q => ((Wa.heap.size ≤ q ∧ q < w2.heap.size) ∨ (Wd.heap.size ≤ q ∧ q < Wf.heap.size)) ∧ q ≠ W2.heap.size) m (.agg #[.int .i64 k5, .string s5, .slice y5 m5 c5]) from fun m hm => IsNd.keep (fun q hq => by
      have hq2 := (show (Wa.heap.size ≤ q ∧ q < w2.heap.size) ∨ (W3.heap.size ≤ q ∧ q < w4.heap.size) from Or.inl hq)
      have hq4 : q ≠ W2.heap.size := hq2.elim (fun h => Nat.ne_of_lt (HFB.out q h)) (fun h => by omega)
      refine ⟨⟨hq2.imp id fun h => ⟨by omega, by rw [hWf]; simp; omega⟩, hq4⟩, ?_⟩
      rw [hWf]
      exact heap_st3 hq4 _ _ _) _ _ (hn4 m hm))
    have hbf : Below Wd.heap.size Wd Wf := hWf ▸ bl_st3 hb14 hg2 _ _ _
    have hgf := hg2
    have hSn := HKS.out Wf hbf
    clear hWf HS4 hn4 hb4
    refine tC 15 hSn ?_
    clear hSn
    refine wpAnyH_done (by kernel_rfl) ?_ _
    have q0 := (HSf.out.get 0 rfl).see3
    have q2 := (HSf.out.get 2 rfl).see3
    have l2 := (HSf.out.get 2 rfl).lt
    have hzf := hbf.size
    go_wp2_with fail
    exact ended_n rfl rfl ((HSf.out.st3 0 rfl _ _ _).get 0 rfl) ⟨x, by omega, _, _, _, _, _, rfl, IsNd.keep (fun q hq => by
      have hq1 := hq.1
      exact ⟨⟨by omega, by simp; omega⟩, heap_st3 (by omega) _ _ _⟩) _ _ (HN.out x rfl), (HSf.out.st3 0 rfl _ _ _).below⟩
end Go.Proofs.YtacgmmpdichlmaaGreat
