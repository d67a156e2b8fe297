/-
  once and parsed of the law: they give true.
  Their conditions: the value reads as a node, of at most 600000 nodes; the slice reads as bytes.
-/
import Derived.Test.YtacgmmpdichlmaaGreatM40
import Derived.Test.YtacgmmpdichlmaaGreatM04
import Derived.Test.YtacgmmpdichlmaaGreatM36
namespace Go.Proofs.YtacgmmpdichlmaaGreat
open Go.RowKit
attribute [local go_sem ↓] Go.wp_at_zero Go.wp_at_succ

/-- Without one of its brackets. -/
theorem without_ok {d : Nd} {X : List Int} (h : X ∈ bracksN d) : ∃ m, withoutN X d = some m ∧ bareN m = bareN d ∧ (bracksN m).length + 1 = (bracksN d).length := by
  have h1 := (mem_bracks d X).1 h
  cases hat : atN X d with
  | none => rw [hat] at h1; cases h1
  | some x =>
    rw [hat] at h1
    have hbr : x.br = true := h1
    obtain ⟨k, s, ks⟩ := x
    obtain ⟨rfl, y, rfl⟩ := isBr_of hbr
    obtain ⟨m, e1, e2, e3⟩ := without_law s y X d hat
    refine ⟨m, ?_, e2, e3⟩
    rw [withoutN, hat, Option.bind_some, if_pos hbr]
    exact e1
set_option maxRecDepth 100000 in
set_option maxHeartbeats 8000000 in
theorem once_any {d : Nd} {v : Value} {k : Int} {w : World} (hD : Is w d v) (hcnt : d.count ≤ 600000) (hk0 : 0 ≤ k) (hk1 : k ≤ 255) : Calls Tryz.prog 14 #[v, .int .u8 k] w (Says true w) := by
  obtain ⟨k1, s1, y1, m1, c1, rfl⟩ := hD.form
  have HD := hide hD
  clear hD
  have hcb := count_bare d
  obtain ⟨B, hB⟩ : ∃ B, bracksN d = B := ⟨_, rfl⟩
  have HB := hide hB
  rw [hB] at hcb
  clear hB
  obtain ⟨Cb, hCb⟩ : ∃ Cb, (bareN d).count = Cb := ⟨_, rfl⟩
  obtain ⟨Cd, hCd⟩ : ∃ Cd, d.count = Cd := ⟨_, rfl⟩
  have HCb := hide hCb
  have HCd := hide hCd
  rw [hCb, hCd] at hcb
  rw [hCd] at hcnt
  clear hCb hCd
  have hcnt9 : d.count ≤ 900000 := by rw [HCd.out]; omega
  have hcb9 : (bareN d).count ≤ 900000 := by rw [HCb.out]; omega
  have HC9 := hide hcnt9
  have HB9 := hide hcb9
  clear hcnt9 hcb9
  go_enter Tryz.func14, Tryz.ntmps14
  go_wp2_with fail
  refine named fun W1 hW1 => ?_
  have HS1 := onS hW1 (St.nil w).va
  clear hW1
  refine (bare_any (w := W1) (HD.out.below HS1.out.below) HC9.out).mono ?_
  rintro e w2 ⟨k2, s2, y2, m2, c2, rfl, hn2, hb2⟩
  have HS2 := hide (HS1.out.call hb2)
  have HN2 := hide (Is.of_new hn2)
  clear hn2 hb2 HS1
  have p0 := rD HS2
  go_wp2_with fail
  have lv2 := lV HS2
  refine named fun W3 hW3 => ?_
  have HS3 := onS hW3 HS2.out.va
  have hb3 : Below w2.heap.size w2 W3 := hW3 ▸ (Below.refl _ w2).alloc (Nat.le_refl _) _
  have HN3 := hide (HN2.out.below hb3)
  clear hW3 hb3 HS2 HN2 p0 lv2
  refine (brackets_any (w := W3) (HD.out.below HS3.out.below) HC9.out).mono ?_
  rintro e w4 ⟨la, lc, rfl, hp4, hb4⟩
  have HS4 := hide (HS3.out.call hb4)
  have HN4 := hide (HN3.out.below hb4)
  rw [HB.out] at hp4
  rw [HB.out]
  have HL4 := hide (IsPaths.of_new hp4)
  clear hp4 hb4 HS3 HN3
  go_wp2_with fail
  have HKS := hide (show ∀ W : World, Below w4.heap.size w4 W → (W.cell? ⟨w.heap.size, 0, none⟩ = some (.int .i64 k1) ∧ W.cell? ⟨w.heap.size, 1, none⟩ = some (.string s1) ∧ W.cell? ⟨w.heap.size, 2, none⟩ = some (.slice y1 m1 c1) ∧ W.cell? ⟨w2.heap.size, 0, none⟩ = some (.int .i64 k2) ∧ W.cell? ⟨w2.heap.size, 1, none⟩ = some (.string s2) ∧ W.cell? ⟨w2.heap.size, 2, none⟩ = some (.slice y2 m2 c2)) from fun W h => ⟨(h.cell (p := ⟨w.heap.size, 0, none⟩) (HS4.out.get 0 rfl).lt).trans ((HS4.out.get 0 rfl).cell 0), (h.cell (p := ⟨w.heap.size, 1, none⟩) (HS4.out.get 0 rfl).lt).trans ((HS4.out.get 0 rfl).cell 1), (h.cell (p := ⟨w.heap.size, 2, none⟩) (HS4.out.get 0 rfl).lt).trans ((HS4.out.get 0 rfl).cell 2), (h.cell (p := ⟨w2.heap.size, 0, none⟩) (HS4.out.get 1 rfl).lt).trans ((HS4.out.get 1 rfl).cell 0), (h.cell (p := ⟨w2.heap.size, 1, none⟩) (HS4.out.get 1 rfl).lt).trans ((HS4.out.get 1 rfl).cell 1), (h.cell (p := ⟨w2.heap.size, 2, none⟩) (HS4.out.get 1 rfl).lt).trans ((HS4.out.get 1 rfl).cell 2)⟩)
  have HDp := hide (fun (V : World) (h : Below w4.heap.size w4 V) => (HD.out.below HS4.out.below).below h)
  have HNp := hide (fun (V : World) (h : Below w4.heap.size w4 V) => HN4.out.below h)
  have HLp := hide (fun (V : World) (h : Below w4.heap.size w4 V) => HL4.out.below h)
  refine rgC (fun W => W.cell? ⟨w.heap.size, 0, none⟩ = some (.int .i64 k1) ∧ W.cell? ⟨w.heap.size, 1, none⟩ = some (.string s1) ∧ W.cell? ⟨w.heap.size, 2, none⟩ = some (.slice y1 m1 c1) ∧ W.cell? ⟨w2.heap.size, 0, none⟩ = some (.int .i64 k2) ∧ W.cell? ⟨w2.heap.size, 1, none⟩ = some (.string s2) ∧ W.cell? ⟨w2.heap.size, 2, none⟩ = some (.slice y2 m2 c2)) (HKS.out _ (bl_dr (Below.refl _ w4))) fun W0 hW0 => ?_
  have hB0 : Below w4.heap.size w4 W0 := hW0 ▸ bl_dr (Below.refl _ w4)
  have HR0 := hide (St.onto hW0 HS4.out.dr)
  have hSn := HKS.out _ hB0
  clear hW0 HS4 HN4 HL4
  refine tC 0 hSn ?_
  refine tC 2 hSn ?_
  clear hSn
  refine rY 1 fun K hK => ?_
  go_simp
  refine (bare_any (w := W0) (HNp.out _ hB0) HB9.out).mono ?_
  rintro e X1 ⟨k5, s5, y5, m5, c5, rfl, hn5, hb1⟩
  have HR1 := hide (HR0.out.call hb1)
  have hB1 := hB0.trans (hb1.mono hB0.size)
  have HX5 := hide (show Is X1 (bareN d) _ from bare_bare d ▸ Is.of_new hn5)
  clear hn5
  clear hb1 HR0 hB0
  go_simp
  refine onK hK (HKS.out _ hB1) ?_
  clear hK K
  have hSn := HKS.out _ hB1
  clear hSn
  refine rY 3 fun K hK => ?_
  go_simp
  refine (refSame_any (bareN d) (bareN d) _ _ X1 HX5.out (HNp.out _ hB1)).mono ?_
  rintro e X2 ⟨rfl, hb2⟩
  rw [sameN_refl]
  have HR2 := hide (HR1.out.call hb2)
  have hB2 := hB1.trans (hb2.mono hB1.size)
  clear HX5
  clear hb2 HR1 hB1
  go_simp
  refine onK hK (HKS.out _ hB2) ?_
  clear hK K
  have hSn := HKS.out _ hB2
  refine tC 4 hSn ?_
  refine tC 5 hSn ?_
  refine tC 6 hSn ?_
  clear hSn
  refine rY 7 fun K hK => ?_
  go_simp
  refine (brackets_any (w := X2) (HNp.out _ hB2) HB9.out).mono ?_
  rintro e X3 ⟨pa, pc, rfl, hp, hb3⟩
  rw [bracks_bare]
  have HR3 := hide (HR2.out.call hb3)
  have hB3 := hB2.trans (hb3.mono hB2.size)
  clear hp
  clear hb3 HR2 hB2
  go_simp
  refine onK hK (HKS.out _ hB3) ?_
  clear hK K
  have hSn := HKS.out _ hB3
  refine tC 8 hSn ?_
  refine tC 9 hSn ?_
  refine tC 10 hSn ?_
  refine tC 11 hSn ?_
  refine tC 12 hSn ?_
  refine tC 13 hSn ?_
  clear hSn
  refine rY 14 fun K hK => ?_
  go_simp
  refine (bareSame_any (w := X3) (HDp.out _ hB3) (HNp.out _ hB3) HC9.out HB9.out).mono ?_
  rintro e X4 ⟨rfl, hb4⟩
  rw [bare_bare, sameN_refl]
  have HR4 := hide (HR3.out.call hb4)
  have hB4 := hB3.trans (hb4.mono hB3.size)
  clear hb4 HR3 hB3
  go_simp
  refine onK hK (HKS.out _ hB4) ?_
  clear hK K
  have hSn := HKS.out _ hB4
  refine tC 15 hSn ?_
  refine tC 16 hSn ?_
  refine tC 17 hSn ?_
  refine tC 18 hSn ?_
  refine tC 20 hSn ?_
  refine tC 22 hSn ?_
  refine tC 23 hSn ?_
  clear hSn
  refine rY 19 fun K hK => ?_
  go_simp
  refine (refCount_any (bareN d) _ X4 (HNp.out _ hB4) HB9.out).mono ?_
  rintro e X5 ⟨rfl, hb5⟩
  rw [HCb.out]
  have HR5 := hide (HR4.out.call hb5)
  have hB5 := hB4.trans (hb5.mono hB4.size)
  clear hb5 HR4 hB4
  go_simp
  refine onK hK (HKS.out _ hB5) ?_
  clear hK K
  have hSn := HKS.out _ hB5
  clear hSn
  refine rY 21 fun K hK => ?_
  go_simp
  refine (refCount_any d _ X5 (HDp.out _ hB5) HC9.out).mono ?_
  rintro e X6 ⟨rfl, hb6⟩
  rw [HCd.out]
  have HR6 := hide (HR5.out.call hb6)
  have hB6 := hB5.trans (hb6.mono hB5.size)
  clear hb6 HR5 hB5
  go_simp
  refine onK hK (HKS.out _ hB6) ?_
  clear hK K
  have hSn := HKS.out _ hB6
  have hsub : (Cd : Int) - (B.length : Int) = (Cb : Int) := by omega
  have hwr : IntKind.i64.wrap (Cb : Int) = (Cb : Int) := IntWalk.i64_in _ (by omega)
  refine tC 24 hSn ?_
  refine tC 25 hSn ?_
  refine tC 26 hSn ?_
  clear hsub hwr
  clear hSn
  refine wpAnyH_done (by kernel_rfl) ?_ _
  have HLn := hide (HLp.out _ hB6)
  have HNn := hide (HNp.out _ hB6)
  have HDn := hide (HDp.out _ hB6)
  clear HLp HNp HDp HKS
  by_cases h0 : B.length = 0
  · have h0i : ((B.length : Int) == 0) = true := by simp [h0]
    have hno : bareN d = d := bare_none d (by rw [HB.out]; exact List.eq_nil_of_length_eq_zero h0)
    have HNO := hide hno
    clear hno
    have p0 := rD HR6
    go_wp2_with fail
    refine (refSame_any d (bareN d) _ _ X6 HDn.out HNn.out).mono ?_
    rintro e w8 ⟨rfl, hb8⟩
    have HS8 := hide (HR6.out.call hb8)
    rw [HNO.out, sameN_refl]
    clear p0 hb8
    go_wp2_with fail
    go_ret
    exact ⟨rfl, HS8.out.below⟩
  · have h0i : ((B.length : Int) == 0) = false := by rw [beq_eq_false_iff_ne]; omega
    obtain ⟨q, hq, hqn⟩ : ∃ q : Nat, k % (B.length : Int) = (q : Int) ∧ q < B.length := by
      have h1 := Int.emod_nonneg k (b := (B.length : Int)) (by omega)
      have h2 := Int.emod_lt_of_pos k (b := (B.length : Int)) (by omega)
      exact ⟨(k % (B.length : Int)).toNat, by omega, by omega⟩
    obtain ⟨lb, lo, uu, rfl, hlb, gl, hup⟩ := HLn.out.get hqn
    obtain ⟨P, hP⟩ : ∃ P, B[q] = P := ⟨_, rfl⟩
    rw [hP] at hup
    obtain ⟨pa, pc, rfl, -, -⟩ := id hup
    obtain ⟨mm, hmm, hmb, hml⟩ := without_ok (d := d) (X := P) (by rw [HB.out, ← hP]; exact List.getElem_mem hqn)
    have hmc := count_bare mm
    have hdc := count_bare d
    rw [hmb] at hmc
    have hmc9 : mm.count ≤ 900000 := by have := HC9.out; omega
    rw [HB.out] at hml
    obtain ⟨Bm, hBm⟩ : ∃ Bm, (bracksN mm).length = Bm := ⟨_, rfl⟩
    rw [hBm] at hml
    have HBM := hide hBm
    have HMB := hide hmb
    have HO := hide hmm
    have HMC := hide hmc9
    have hqt : k.tmod (B.length : Int) = (q : Int) := by rw [Int.tmod_eq_emod_of_nonneg hk0, hq]
    have ew1 : IntKind.i64.wrap k = k := IntWalk.i64_in _ (by omega)
    have ew2 : IntKind.i64.wrap (q : Int) = q := IntWalk.i64_in _ (by omega)
    have eq1 : (q : Int) < (B.length : Int) := by omega
    have eL0 : ¬ (B.length : Int) = 0 := by omega
    have HXp := hide (fun (V : World) (h : Below X6.heap.size X6 V) => IsPath.below (show IsPath X6 (· < X6.heap.size) (.slice pa P.length pc) P from hup) h)
    have HG := hide gl
    clear hP hup gl hmc hdc hmc9 hBm hmb hmm
    go_wp2_with fail
    have HKS := hide (show ∀ W : World, Below X6.heap.size X6 W → (W.cell? ⟨w.heap.size, 0, none⟩ = some (.int .i64 k1) ∧ W.cell? ⟨w.heap.size, 1, none⟩ = some (.string s1) ∧ W.cell? ⟨w.heap.size, 2, none⟩ = some (.slice y1 m1 c1) ∧ W.cell? ⟨lb, lo + q, none⟩ = some (.slice pa P.length pc)) from fun W h => ⟨(h.cell (p := ⟨w.heap.size, 0, none⟩) (HR6.out.get 0 rfl).lt).trans ((HR6.out.get 0 rfl).cell 0), (h.cell (p := ⟨w.heap.size, 1, none⟩) (HR6.out.get 0 rfl).lt).trans ((HR6.out.get 0 rfl).cell 1), (h.cell (p := ⟨w.heap.size, 2, none⟩) (HR6.out.get 0 rfl).lt).trans ((HR6.out.get 0 rfl).cell 2), (h.cell (p := ⟨lb, lo + q, none⟩) hlb).trans HG.out⟩)
    have HDp := hide (fun (V : World) (h : Below X6.heap.size X6 V) => HDn.out.below h)
    refine rgC (fun W => W.cell? ⟨w.heap.size, 0, none⟩ = some (.int .i64 k1) ∧ W.cell? ⟨w.heap.size, 1, none⟩ = some (.string s1) ∧ W.cell? ⟨w.heap.size, 2, none⟩ = some (.slice y1 m1 c1) ∧ W.cell? ⟨lb, lo + q, none⟩ = some (.slice pa P.length pc)) (HKS.out _ (bl_dr (Below.refl _ X6))) fun W2 hW2 => ?_
    have hb12 : Below X6.heap.size X6 W2 := hW2 ▸ bl_dr (Below.refl _ X6)
    have HS2 := hide (St.onto hW2 HR6.out.dr)
    have hSn := HKS.out _ hb12
    have HFB := hide (fun (q : Nat) (hq : False) => (hq.elim : q < W2.heap.size))
    clear hW2 HR6 HG
    refine tC 0 hSn ?_
    refine tC 1 hSn ?_
    refine tC 2 hSn ?_
    refine tC 3 hSn ?_
    refine tC 4 hSn ?_
    refine tC 5 hSn ?_
    refine tC 6 hSn ?_
    refine tC 7 hSn ?_
    refine tC 8 hSn ?_
    clear hSn
    refine rY2 9 13 (fun K hK => ?_) (fun K hK => ?_)
    ·
      go_simp
      refine (HO.out ▸ without_any (w := W2) (HDp.out _ hb12) HC9.out (HXp.out _ hb12)).mono ?_
      intro e w3 hat3
      obtain ⟨k5, s5, y5, m5, c5, rfl, hn3, hb3⟩ := hat3.form2
      have HS3 := hide (HS2.out.call hb3)
      have hz32 := hb3.size
      have hb13 := hb12.trans (hb3.mono hb12.size)
      have hSn := HKS.out _ hb13
      clear hat3 HS2
      go_simp
      refine onK hK hSn ?_
      clear hK K
      refine tC 10 hSn ?_
      refine tC 11 hSn ?_
      refine tC 12 hSn ?_
      clear hSn
      refine rY 13 fun K hK => ?_
      go_simp
      refine onW hK (HKS.out _ (bl_al hb13 _)) fun W4 hW4 => ?_
      clear hK K
      have HS4 := onS hW4 HS3.out.va
      have hb14 : Below X6.heap.size X6 W4 := hW4 ▸ bl_al hb13 _
      have hz4 : W4.heap.size = w3.heap.size + 1 := by rw [hW4]; simp
      have hk4 : ∀ q, q < w3.heap.size → W4.heap[q]? = w3.heap[q]? := fun q hq => hW4 ▸ Below.heap_alloc w3 _ q hq
      have hg3 := hb13.size
      clear hW4 HS3
      refine rY 14 fun K hK => ?_
      have p3 := (HS4.out.get 2 rfl).see3
      go_simp
      refine onW hK (HKS.out _ (bl_st3 hb14 hg3 _ _ _)) fun Wf hWf => ?_
      clear hK K p3
      have HSf := onS hWf (HS4.out.st3 2 rfl _ _ _)
      have HN := hide (show ∀ m, some mm = some m → IsNd Wf (fun q => (False ∨ (X6.heap.size ≤ q ∧ q < Wf.heap.size)) ∧ q ≠ w3.heap.size) m (.agg #[.int .i64 k5, .string s5, .slice y5 m5 c5]) from fun m hm => IsNd.keep (fun q hq => by
        have hq2 := (show False ∨ (W2.heap.size ≤ q ∧ q < w3.heap.size) from Or.inr hq)
        have hq4 : q < w3.heap.size := hq2.elim (fun h => Nat.lt_of_lt_of_le (HFB.out q h) hz32) (fun h => h.2)
        have hz2 := hb12.size
        refine ⟨⟨hq2.imp id fun h => ⟨by omega, by rw [hWf]; simp; omega⟩, by omega⟩, ?_⟩
        rw [hWf]
        exact (heap_st3 (by omega) _ _ _).trans (hk4 q hq4)) _ _ (hn3 m hm))
      have hbf : Below X6.heap.size X6 Wf := hWf ▸ bl_st3 hb14 hg3 _ _ _
      have hgf := hg3
      have hSn := HKS.out Wf hbf
      clear hWf HS4 hn3 hb3 hk4
      refine tC 15 hSn ?_
      clear hSn
      refine wpAnyH_done (by kernel_rfl) ?_ _
      have HMf := hide (show Is Wf mm _ from IsNd.keep (fun q hq => ⟨hq.1.elim (fun h => h.elim) (fun h => h.2), rfl⟩) _ _ (HN.out mm rfl))
      have HDf := hide (HDp.out Wf hbf)
      clear HN HKS HDp HDn HNn HLn HXp
      have p0 := rD HSf
      go_wp2_with fail
      refine (bareSame_any (w := Wf) HMf.out HDf.out HMC.out HC9.out).mono ?_
      rintro e w8 ⟨rfl, hb8⟩
      rw [HMB.out, sameN_refl]
      have HS8 := hide (HSf.out.call hb8)
      have HM8 := hide (HMf.out.below hb8)
      clear p0 hb8 HMf HDf HSf
      have p0 := rD HS8
      go_wp2_with fail
      refine (brackets_any (w := w8) HM8.out HMC.out).mono ?_
      rintro e w9 ⟨xa, xc, rfl, hp9, hb9⟩
      have HS9 := hide (HS8.out.call hb9)
      rw [HBM.out]
      clear hp9 hb9 HM8 HS8 p0
      have hlm : (B.length : Int) - 1 = (Bm : Int) := by omega
      go_wp2_with fail
      go_ret
      exact ⟨rfl, HS9.out.below⟩
    ·
      go_simp
      refine onW hK (HKS.out _ (bl_al hb12 _)) fun W3 hW3 => ?_
      clear hK K
      have HS3 := onS hW3 HS2.out.va
      have hb13 : Below X6.heap.size X6 W3 := hW3 ▸ bl_al hb12 _
      have hz3 : W3.heap.size = W2.heap.size + 1 := by rw [hW3]; simp
      have hg2 := hb12.size
      clear hW3 HS2
      refine rY 9 fun K hK => ?_
      go_simp
      refine (HO.out ▸ without_any (w := W3) (HDp.out _ hb13) HC9.out (HXp.out _ hb13)).mono ?_
      intro e w4 hat4
      obtain ⟨k5, s5, y5, m5, c5, rfl, hn4, hb4⟩ := hat4.form2
      have HS4 := hide (HS3.out.call hb4)
      have hb14 := hb13.trans (hb4.mono hb13.size)
      have hSn := HKS.out _ hb14
      clear hat4 HS3
      go_simp
      refine onK hK hSn ?_
      clear hK K
      refine tC 10 hSn ?_
      refine tC 11 hSn ?_
      refine tC 12 hSn ?_
      clear hSn
      refine rY 14 fun K hK => ?_
      have p3 := (HS4.out.get 2 rfl).see3
      go_simp
      refine onW hK (HKS.out _ (bl_st3 hb14 hg2 _ _ _)) fun Wf hWf => ?_
      clear hK K p3
      have HSf := onS hWf (HS4.out.st3 2 rfl _ _ _)
      have HN := hide (show ∀ m, some mm = some m → IsNd Wf (fun q => (False ∨ (X6.heap.size ≤ q ∧ q < Wf.heap.size)) ∧ q ≠ W2.heap.size) m (.agg #[.int .i64 k5, .string s5, .slice y5 m5 c5]) from fun m hm => IsNd.keep (fun q hq => by
        have hq2 := (show False ∨ (W3.heap.size ≤ q ∧ q < w4.heap.size) from Or.inr hq)
        have hq4 : q ≠ W2.heap.size := hq2.elim (fun h => Nat.ne_of_lt (HFB.out q h)) (fun h => by omega)
        refine ⟨⟨hq2.imp id fun h => ⟨by omega, by rw [hWf]; simp; omega⟩, hq4⟩, ?_⟩
        rw [hWf]
        exact heap_st3 hq4 _ _ _) _ _ (hn4 m hm))
      have hbf : Below X6.heap.size X6 Wf := hWf ▸ bl_st3 hb14 hg2 _ _ _
      have hgf := hg2
      have hSn := HKS.out Wf hbf
      clear hWf HS4 hn4 hb4
      refine tC 15 hSn ?_
      clear hSn
      refine wpAnyH_done (by kernel_rfl) ?_ _
      have HMf := hide (show Is Wf mm _ from IsNd.keep (fun q hq => ⟨hq.1.elim (fun h => h.elim) (fun h => h.2), rfl⟩) _ _ (HN.out mm rfl))
      have HDf := hide (HDp.out Wf hbf)
      clear HN HKS HDp HDn HNn HLn HXp
      have p0 := rD HSf
      go_wp2_with fail
      refine (bareSame_any (w := Wf) HMf.out HDf.out HMC.out HC9.out).mono ?_
      rintro e w8 ⟨rfl, hb8⟩
      rw [HMB.out, sameN_refl]
      have HS8 := hide (HSf.out.call hb8)
      have HM8 := hide (HMf.out.below hb8)
      clear p0 hb8 HMf HDf HSf
      have p0 := rD HS8
      go_wp2_with fail
      refine (brackets_any (w := w8) HM8.out HMC.out).mono ?_
      rintro e w9 ⟨xa, xc, rfl, hp9, hb9⟩
      have HS9 := hide (HS8.out.call hb9)
      rw [HBM.out]
      clear hp9 hb9 HM8 HS8 p0
      have hlm : (B.length : Int) - 1 = (Bm : Int) := by omega
      go_wp2_with fail
      go_ret
      exact ⟨rfl, HS9.out.below⟩
set_option maxRecDepth 100000 in
set_option maxHeartbeats 4000000 in
theorem parsedLaw_any (a : Option Addr) (m cap : Nat) (c : List Int) (k : Int) (w : World) (hI : IsBytes w (· < w.heap.size) a m c) (hcap : m ≤ cap) (hk0 : 0 ≤ k) (hk1 : k ≤ 255) : Calls Tryz.prog 15 #[.slice a m cap, .int .u8 k] w (Says true w) := by
  have HT := hide (parsed_any a m cap c w hI hcap)
  clear hI
  go_enter Tryz.func15, Tryz.ntmps15
  go_wp2_with fail
  refine HT.out.mono ?_
  rintro e w1 ⟨⟨d, kd, sd, yd, md, cd, ok, rfl, hn1, hcnt⟩, hb1⟩
  have HN1 := hide (Is.of_new hn1)
  have HS1 := hide ((St.nil w).call hb1)
  clear hn1 hb1 HT
  cases ok with
  | false =>
    go_wp2_with fail
    go_ret
    exact ⟨rfl, bl_al HS1.out.below _⟩
  | true =>
    go_wp2_with fail
    refine named fun W1 hW1 => ?_
    have hb3 : Below w1.heap.size w1 W1 := hW1 ▸ (Below.refl _ w1).alloc (Nat.le_refl _) _
    have HS3 := hide (HS1.out.call hb3)
    have HN3 := hide (HN1.out.below hb3)
    clear hW1 hb3 HS1 HN1
    refine (once_any (w := W1) HN3.out hcnt hk0 hk1).mono ?_
    rintro e w4 ⟨rfl, hb4⟩
    have HS4 := hide (HS3.out.call hb4)
    clear hb4 HS3 HN3
    go_wp2_with fail
    go_ret
    exact ⟨rfl, HS4.out.below⟩
end Go.Proofs.YtacgmmpdichlmaaGreat
