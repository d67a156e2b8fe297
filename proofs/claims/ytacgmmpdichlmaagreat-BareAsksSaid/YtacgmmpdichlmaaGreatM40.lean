/-
  asks, same and one of the law: they give true. Their conditions: the values read as nodes, of at most 900000 nodes; the slice reads as numbers.
-/
import Derived.Test.YtacgmmpdichlmaaGreatM26
import Derived.Test.YtacgmmpdichlmaaGreatM32
import Derived.Test.YtacgmmpdichlmaaGreatM03
import Derived.Test.YtacgmmpdichlmaaGreatM38
import Derived.Test.YtacgmmpdichlmaaGreatM31
namespace Go.Proofs.YtacgmmpdichlmaaGreat
open Go.RowKit
attribute [local go_sem ↓] Go.wp_at_zero Go.wp_at_succ

/-- A node without anything. -/
def zN : Nd := .mk 0 ⟨#[]⟩ .nil
theorem AtP.form3 {F : World → Nat → Prop} {w w' : World} {o : Option Nd} {e : Ending} (h : AtP F w o e w') : ∃ (k : Int) (s : ByteArray) (y : Option Addr) (m c : Nat), e = .returned (.tuple #[.agg #[.int .i64 k, .string s, .slice y m c], .bool o.isSome]) ∧ IsNd w' (F w') (o.getD zN) (.agg #[.int .i64 k, .string s, .slice y m c]) ∧ Below w.heap.size w w' := by
  obtain ⟨h1, h2⟩ := h
  cases o with
  | none => exact ⟨_, _, _, _, _, h1, IsNd.leaf (by omega) (by decide), h2⟩
  | some d =>
    obtain ⟨k, s, y, m, c, rfl, hn⟩ := h1
    exact ⟨k, s, y, m, c, rfl, hn, h2⟩
theorem IsPaths.below {w w' : World} {v : Value} {ps : List (List Int)} (h : IsPaths w (· < w.heap.size) v ps) (hb : Below w.heap.size w w') : IsPaths w' (· < w'.heap.size) v ps := h.keep fun b hb' => ⟨Nat.lt_of_lt_of_le hb' hb.size, hb.block b hb'⟩
theorem Is.of_new {w' : World} {B : Nat} {d : Nd} {v : Value} (h : IsNd w' (New B w') d v) : Is w' d v := IsNd.keep (fun _ hb => ⟨hb.2, rfl⟩) _ _ h
theorem IsPaths.of_new {w' : World} {B : Nat} {v : Value} {ps : List (List Int)} (h : IsPaths w' (New B w') v ps) : IsPaths w' (· < w'.heap.size) v ps := h.keep fun _ hb => ⟨hb.2, rfl⟩
set_option maxRecDepth 100000 in
set_option maxHeartbeats 4000000 in
theorem sameLaw_any {d d' : Nd} {v v' : Value} {w : World} (hD : Is w d v) (hE : Is w d' v') (h1 : d.count ≤ 900000) (h2 : d'.count ≤ 900000) : Calls Tryz.prog 11 #[v, v'] w (Says true w) := by
  obtain ⟨k1, s1, y1, m1, c1, rfl⟩ := hD.form
  obtain ⟨k2, s2, y2, m2, c2, rfl⟩ := hE.form
  have HD := hide hD
  have HE := hide hE
  clear hD hE
  go_enter Tryz.func11, Tryz.ntmps11
  go_wp2_with fail
  refine namedWp fun Wb hW => ?_
  have HS := onS hW (St.nil w).va.va
  clear hW
  obtain ⟨bb, hbb⟩ : ∃ bb, sameN (bareN d) (bareN d') = bb := ⟨_, rfl⟩
  have HBB := hide hbb
  clear hbb
  have HKS := hide (show ∀ W : World, Below Wb.heap.size Wb W → (W.cell? ⟨w.heap.size, 0, none⟩ = some (.int .i64 k1) ∧ W.cell? ⟨w.heap.size, 1, none⟩ = some (.string s1) ∧ W.cell? ⟨w.heap.size, 2, none⟩ = some (.slice y1 m1 c1) ∧ W.cell? ⟨w.heap.size + 1, 0, none⟩ = some (.int .i64 k2) ∧ W.cell? ⟨w.heap.size + 1, 1, none⟩ = some (.string s2) ∧ W.cell? ⟨w.heap.size + 1, 2, none⟩ = some (.slice y2 m2 c2)) from fun W h => ⟨(h.cell (p := ⟨w.heap.size, 0, none⟩) (HS.out.get 0 rfl).lt).trans ((HS.out.get 0 rfl).cell 0), (h.cell (p := ⟨w.heap.size, 1, none⟩) (HS.out.get 0 rfl).lt).trans ((HS.out.get 0 rfl).cell 1), (h.cell (p := ⟨w.heap.size, 2, none⟩) (HS.out.get 0 rfl).lt).trans ((HS.out.get 0 rfl).cell 2), (h.cell (p := ⟨w.heap.size + 1, 0, none⟩) (HS.out.get 1 rfl).lt).trans ((HS.out.get 1 rfl).cell 0), (h.cell (p := ⟨w.heap.size + 1, 1, none⟩) (HS.out.get 1 rfl).lt).trans ((HS.out.get 1 rfl).cell 1), (h.cell (p := ⟨w.heap.size + 1, 2, none⟩) (HS.out.get 1 rfl).lt).trans ((HS.out.get 1 rfl).cell 2)⟩)
  have HDp := hide (fun (V : World) (h : Below Wb.heap.size Wb V) => (HD.out.below HS.out.below).below h)
  have HEp := hide (fun (V : World) (h : Below Wb.heap.size Wb V) => (HE.out.below HS.out.below).below h)
  refine rgC (fun W => W.cell? ⟨w.heap.size, 0, none⟩ = some (.int .i64 k1) ∧ W.cell? ⟨w.heap.size, 1, none⟩ = some (.string s1) ∧ W.cell? ⟨w.heap.size, 2, none⟩ = some (.slice y1 m1 c1) ∧ W.cell? ⟨w.heap.size + 1, 0, none⟩ = some (.int .i64 k2) ∧ W.cell? ⟨w.heap.size + 1, 1, none⟩ = some (.string s2) ∧ W.cell? ⟨w.heap.size + 1, 2, none⟩ = some (.slice y2 m2 c2)) (HKS.out _ (bl_dr (Below.refl _ Wb))) fun W0 hW0 => ?_
  have hB0 : Below Wb.heap.size Wb W0 := hW0 ▸ bl_dr (Below.refl _ Wb)
  have HR0 := hide (St.onto hW0 HS.out.dr)
  have hSn := HKS.out _ hB0
  clear hW0 HS
  refine tC 0 hSn ?_
  refine tC 1 hSn ?_
  refine tC 3 hSn ?_
  refine tC 4 hSn ?_
  clear hSn
  refine rY 2 fun K hK => ?_
  go_simp
  refine (bareSame_any (w := W0) (HDp.out _ hB0) (HEp.out _ hB0) h1 h2).mono ?_
  rintro e X1 ⟨rfl, hb1⟩
  rw [HBB.out]
  have HR1 := hide (HR0.out.call hb1)
  have hB1 := hB0.trans (hb1.mono hB0.size)
  clear hb1 HR0 hB0
  go_simp
  refine onK hK (HKS.out _ hB1) ?_
  clear hK K
  have hSn := HKS.out _ hB1
  clear hSn
  refine rY 5 fun K hK => ?_
  go_simp
  refine (refBSame_any (w := X1) (HDp.out _ hB1) (HEp.out _ hB1) h1 h2).mono ?_
  rintro e X2 ⟨rfl, hb2⟩
  rw [HBB.out]
  have HR2 := hide (HR1.out.call hb2)
  have hB2 := hB1.trans (hb2.mono hB1.size)
  clear hb2 HR1 hB1
  go_simp
  refine onK hK (HKS.out _ hB2) ?_
  clear hK K
  have hSn := HKS.out _ hB2
  refine tC 6 hSn ?_
  refine tC 7 hSn ?_
  clear hSn
  refine wpAnyH_done (by kernel_rfl) ?_ _
  go_wp2_with fail
  go_ret
  exact ⟨by cases bb <;> rfl, HR2.out.below⟩
set_option maxRecDepth 100000 in
set_option maxHeartbeats 8000000 in
theorem asks_any {d : Nd} {v u : Value} {p : List Int} {w : World} (hD : Is w d v) (hcnt : d.count ≤ 900000) (hP : IsPath w (· < w.heap.size) u p) : Calls Tryz.prog 10 #[v, u] w (Says true w) := by
  obtain ⟨k1, s1, y1, m1, c1, rfl⟩ := hD.form
  obtain ⟨pa, pc, rfl, -, -⟩ := id hP
  have HD := hide hD
  have HP := hide hP
  clear hD hP
  obtain ⟨ob, hob⟩ : ∃ ob, (withoutN p d).isSome = ob := ⟨_, rfl⟩
  have HOB := hide hob
  clear hob
  obtain ⟨Z, hZ⟩ : ∃ Z, (withoutN p d).getD zN = Z := ⟨_, rfl⟩
  have HZ := hide hZ
  clear hZ
  obtain ⟨B, hB⟩ : ∃ B, bracksN d = B := ⟨_, rfl⟩
  have HB := hide hB
  clear hB
  go_enter Tryz.func10, Tryz.ntmps10
  go_wp2_with fail
  refine named fun W1 hW1 => ?_
  have HS1 := onS hW1 (St.nil w).va
  clear hW1
  refine (without_any (w := W1) (HD.out.below HS1.out.below) hcnt (HP.out.below HS1.out.below)).mono ?_
  intro e w2 hat
  obtain ⟨k2, s2, y2, m2, c2, rfl, hn2, hb2⟩ := hat.form3
  rw [HOB.out]
  have HS2 := hide (HS1.out.call hb2)
  have HN2 := hide (show Is w2 Z _ from HZ.out ▸ Is.of_new hn2)
  clear hat hn2 hb2 HS1
  have p0 := rD HS2
  go_wp2_with fail
  have lv2 := lV HS2
  refine named fun W3 hW3 => ?_
  have HS3 := onS hW3 HS2.out.va
  have hb3 : Below w2.heap.size w2 W3 := hW3 ▸ (Below.refl _ w2).alloc (Nat.le_refl _) _
  have HN3 := hide (HN2.out.below hb3)
  clear hW3 hb3 HS2 HN2 p0 lv2
  refine (refWithout_any (w := W3) (HD.out.below HS3.out.below) hcnt (HP.out.below HS3.out.below)).mono ?_
  intro e w4 hat
  obtain ⟨k4, s4, y4, m4, c4, rfl, hn4, hb4⟩ := hat.form3
  rw [HOB.out]
  have HS4 := hide (HS3.out.call hb4)
  have HN4 := hide (HN3.out.below hb4)
  have HM4 := hide (show Is w4 Z _ from HZ.out ▸ hn4)
  clear hat hn4 hb4 HS3 HN3
  have p0 := rD HS4
  go_wp2_with fail
  have lv4 := lV HS4
  refine named fun W5 hW5 => ?_
  have HS5 := onS hW5 HS4.out.va
  have hb5 : Below w4.heap.size w4 W5 := hW5 ▸ (Below.refl _ w4).alloc (Nat.le_refl _) _
  have HN5 := hide (HN4.out.below hb5)
  have HM5 := hide (HM4.out.below hb5)
  clear hW5 hb5 HS4 HN4 HM4 p0 lv4
  refine (brackets_any (w := W5) (HD.out.below HS5.out.below) hcnt).mono ?_
  rintro e w6 ⟨la, lc, rfl, hp6, hb6⟩
  have HS6 := hide (HS5.out.call hb6)
  have HN6 := hide (HN5.out.below hb6)
  have HM6 := hide (HM5.out.below hb6)
  have HL6 := hide (IsPaths.of_new hp6)
  clear hp6 hb6 HS5 HN5 HM5
  have p0 := rD HS6
  go_wp2_with fail
  refine (refBracks_any (w := w6) (HD.out.below HS6.out.below) hcnt).mono ?_
  rintro e w7 ⟨ra, rc, rfl, hp7, hb7⟩
  have HS7 := hide (HS6.out.call hb7)
  have HN7 := hide (HN6.out.below hb7)
  have HM7 := hide (HM6.out.below hb7)
  have HL7 := hide (HL6.out.below hb7)
  have HQ7 := hide (IsPaths.of_new hp7)
  clear hp7 hb7 HS6 HN6 HM6 HL6 p0
  rw [HB.out] at HL7 HQ7
  rw [HB.out]
  go_wp2_with fail
  have HKS := hide (show ∀ W : World, Below w7.heap.size w7 W → (W.cell? ⟨w.heap.size, 0, none⟩ = some (.int .i64 k1) ∧ W.cell? ⟨w.heap.size, 1, none⟩ = some (.string s1) ∧ W.cell? ⟨w.heap.size, 2, none⟩ = some (.slice y1 m1 c1) ∧ W.cell? ⟨w2.heap.size, 0, none⟩ = some (.int .i64 k2) ∧ W.cell? ⟨w2.heap.size, 1, none⟩ = some (.string s2) ∧ W.cell? ⟨w2.heap.size, 2, none⟩ = some (.slice y2 m2 c2) ∧ W.cell? ⟨w4.heap.size, 0, none⟩ = some (.int .i64 k4) ∧ W.cell? ⟨w4.heap.size, 1, none⟩ = some (.string s4) ∧ W.cell? ⟨w4.heap.size, 2, none⟩ = some (.slice y4 m4 c4)) from fun W h => ⟨(h.cell (p := ⟨w.heap.size, 0, none⟩) (HS7.out.get 0 rfl).lt).trans ((HS7.out.get 0 rfl).cell 0), (h.cell (p := ⟨w.heap.size, 1, none⟩) (HS7.out.get 0 rfl).lt).trans ((HS7.out.get 0 rfl).cell 1), (h.cell (p := ⟨w.heap.size, 2, none⟩) (HS7.out.get 0 rfl).lt).trans ((HS7.out.get 0 rfl).cell 2), (h.cell (p := ⟨w2.heap.size, 0, none⟩) (HS7.out.get 1 rfl).lt).trans ((HS7.out.get 1 rfl).cell 0), (h.cell (p := ⟨w2.heap.size, 1, none⟩) (HS7.out.get 1 rfl).lt).trans ((HS7.out.get 1 rfl).cell 1), (h.cell (p := ⟨w2.heap.size, 2, none⟩) (HS7.out.get 1 rfl).lt).trans ((HS7.out.get 1 rfl).cell 2), (h.cell (p := ⟨w4.heap.size, 0, none⟩) (HS7.out.get 2 rfl).lt).trans ((HS7.out.get 2 rfl).cell 0), (h.cell (p := ⟨w4.heap.size, 1, none⟩) (HS7.out.get 2 rfl).lt).trans ((HS7.out.get 2 rfl).cell 1), (h.cell (p := ⟨w4.heap.size, 2, none⟩) (HS7.out.get 2 rfl).lt).trans ((HS7.out.get 2 rfl).cell 2)⟩)
  have HDp := hide (fun (V : World) (h : Below w7.heap.size w7 V) => (HD.out.below HS7.out.below).below h)
  have HNp := hide (fun (V : World) (h : Below w7.heap.size w7 V) => HN7.out.below h)
  have HMp := hide (fun (V : World) (h : Below w7.heap.size w7 V) => HM7.out.below h)
  have HLp := hide (fun (V : World) (h : Below w7.heap.size w7 V) => HL7.out.below h)
  have HQp := hide (fun (V : World) (h : Below w7.heap.size w7 V) => HQ7.out.below h)
  refine rgC (fun W => W.cell? ⟨w.heap.size, 0, none⟩ = some (.int .i64 k1) ∧ W.cell? ⟨w.heap.size, 1, none⟩ = some (.string s1) ∧ W.cell? ⟨w.heap.size, 2, none⟩ = some (.slice y1 m1 c1) ∧ W.cell? ⟨w2.heap.size, 0, none⟩ = some (.int .i64 k2) ∧ W.cell? ⟨w2.heap.size, 1, none⟩ = some (.string s2) ∧ W.cell? ⟨w2.heap.size, 2, none⟩ = some (.slice y2 m2 c2) ∧ W.cell? ⟨w4.heap.size, 0, none⟩ = some (.int .i64 k4) ∧ W.cell? ⟨w4.heap.size, 1, none⟩ = some (.string s4) ∧ W.cell? ⟨w4.heap.size, 2, none⟩ = some (.slice y4 m4 c4)) (HKS.out _ (bl_dr (Below.refl _ w7))) fun W0 hW0 => ?_
  have hB0 : Below w7.heap.size w7 W0 := hW0 ▸ bl_dr (Below.refl _ w7)
  have HR0 := hide (St.onto hW0 HS7.out.dr)
  have hSn := HKS.out _ hB0
  clear hW0 HS7 HN7 HM7 HL7 HQ7
  refine tC 0 hSn ?_
  refine tC 2 hSn ?_
  clear hSn
  refine rY 1 fun K hK => ?_
  go_simp
  refine (bare_any (w := W0) (HDp.out _ hB0) hcnt).mono ?_
  rintro e X1 ⟨k5, s5, y5, m5, c5, rfl, hn5, hb1⟩
  have HR1 := hide (HR0.out.call hb1)
  have hB1 := hB0.trans (hb1.mono hB0.size)
  have HX5 := hide (Is.of_new hn5)
  clear hn5
  clear hb1 HR0 hB0
  go_simp
  refine onK hK (HKS.out _ hB1) ?_
  clear hK K
  have hSn := HKS.out _ hB1
  clear hSn
  refine rY 3 fun K hK => ?_
  go_simp
  refine (refBare_any d _ X1 (HDp.out _ hB1) hcnt).mono ?_
  rintro e X2 ⟨k6, s6, y6, m6, c6, rfl, hn6, hb2⟩
  have HR2 := hide (HR1.out.call hb2)
  have hB2 := hB1.trans (hb2.mono hB1.size)
  have HX6 := hide (HX5.out.below hb2)
  have HY6 := hide (Is.of_new hn6)
  clear hn6 HX5
  clear hb2 HR1 hB1
  go_simp
  refine onK hK (HKS.out _ hB2) ?_
  clear hK K
  have hSn := HKS.out _ hB2
  clear hSn
  refine rY 4 fun K hK => ?_
  go_simp
  refine (refSame_any (bareN d) (bareN d) _ _ X2 HX6.out HY6.out).mono ?_
  rintro e X3 ⟨rfl, hb3⟩
  rw [sameN_refl]
  have HR3 := hide (HR2.out.call hb3)
  have hB3 := hB2.trans (hb3.mono hB2.size)
  clear HX6 HY6
  clear hb3 HR2 hB2
  go_simp
  refine onK hK (HKS.out _ hB3) ?_
  clear hK K
  have hSn := HKS.out _ hB3
  refine tC 5 hSn ?_
  refine tC 6 hSn ?_
  refine tC 7 hSn ?_
  clear hSn
  refine rY 8 fun K hK => ?_
  go_simp
  refine (refSame_any Z Z _ _ X3 (HNp.out _ hB3) (HMp.out _ hB3)).mono ?_
  rintro e X4 ⟨rfl, hb4⟩
  rw [sameN_refl]
  have HR4 := hide (HR3.out.call hb4)
  have hB4 := hB3.trans (hb4.mono hB3.size)
  clear hb4 HR3 hB3
  go_simp
  refine onK hK (HKS.out _ hB4) ?_
  clear hK K
  have hSn := HKS.out _ hB4
  refine tC 9 hSn ?_
  refine tC 10 hSn ?_
  refine tC 11 hSn ?_
  refine tC 12 hSn ?_
  refine tC 13 hSn ?_
  refine tC 14 hSn ?_
  refine tC 15 hSn ?_
  refine tC 16 hSn ?_
  refine tC 17 hSn ?_
  clear hSn
  refine rY 18 fun K hK => ?_
  go_simp
  refine (eqPaths_any (w := X4) (HLp.out _ hB4) (HQp.out _ hB4)).mono ?_
  rintro e X5 ⟨rfl, hb5⟩
  rw [show decide (B = B) = true by simp]
  have HR5 := hide (HR4.out.call hb5)
  have hB5 := hB4.trans (hb5.mono hB4.size)
  clear hb5 HR4 hB4
  go_simp
  refine onK hK (HKS.out _ hB5) ?_
  clear hK K
  have hSn := HKS.out _ hB5
  refine tC 19 hSn ?_
  refine tC 20 hSn ?_
  clear hSn
  refine wpAnyH_done (by kernel_rfl) ?_ _
  go_wp2_with fail
  go_ret
  exact ⟨rfl, HR5.out.below⟩
set_option maxRecDepth 100000 in
set_option maxHeartbeats 4000000 in
theorem oneLaw_any {d : Nd} {v : Value} {k : Int} {w : World} (hD : Is w d v) (hcnt : d.count ≤ 900000) (hk0 : 0 ≤ k) (hk1 : k ≤ 255) : Calls Tryz.prog 13 #[v, .int .u8 k] w (Says true w) := by
  obtain ⟨k1, s1, y1, m1, c1, rfl⟩ := hD.form
  have HD := hide hD
  clear hD
  obtain ⟨B, hB⟩ : ∃ B, bracksN d = B := ⟨_, rfl⟩
  have HB := hide hB
  have hBl : B.length ≤ 900000 := by rw [← hB]; have h1 := count_bare d; omega
  clear hB
  go_enter Tryz.func13, Tryz.ntmps13
  go_wp2_with fail
  refine named fun W1 hW1 => ?_
  have HS1 := onS hW1 (St.nil w).va
  clear hW1
  refine (refBracks_any (w := W1) (HD.out.below HS1.out.below) hcnt).mono ?_
  rintro e w2 ⟨la, lc, rfl, hp2, hb2⟩
  have HS2 := hide (HS1.out.call hb2)
  rw [HB.out] at hp2
  rw [HB.out]
  have HL2 := hide (IsPaths.of_new hp2)
  clear hp2 hb2 HS1
  by_cases h0 : B.length = 0
  · have h0i : ((B.length : Int) == 0) = true := by simp [h0]
    go_wp2_with fail
    go_ret
    exact ⟨rfl, HS2.out.below⟩
  · have h0i : ((B.length : Int) == 0) = false := by rw [beq_eq_false_iff_ne]; omega
    obtain ⟨q, hq, hqn⟩ : ∃ q : Nat, k % (B.length : Int) = (q : Int) ∧ q < B.length := by
      have h1 := Int.emod_nonneg k (b := (B.length : Int)) (by omega)
      have h2 := Int.emod_lt_of_pos k (b := (B.length : Int)) (by omega)
      exact ⟨(k % (B.length : Int)).toNat, by omega, by omega⟩
    obtain ⟨lb, lo, uu, rfl, hlb, gl, hup⟩ := HL2.out.get hqn
    obtain ⟨X, hX⟩ : ∃ X, B[q] = X := ⟨_, rfl⟩
    rw [hX] at hup
    obtain ⟨pa, pc, rfl, -, -⟩ := id hup
    have hqt : k.tmod (B.length : Int) = (q : Int) := by rw [Int.tmod_eq_emod_of_nonneg hk0, hq]
    have ew1 : IntKind.i64.wrap k = k := IntWalk.i64_in _ (by omega)
    have ew2 : IntKind.i64.wrap (q : Int) = q := IntWalk.i64_in _ (by omega)
    have eq1 : (q : Int) < (B.length : Int) := by omega
    have eL0 : ¬ (B.length : Int) = 0 := by omega
    have HXp := hide (fun (V : World) (h : Below w2.heap.size w2 V) => IsPath.below (show IsPath w2 (· < w2.heap.size) (.slice pa X.length pc) X from hup) h)
    have HG := hide gl
    clear hX hup gl
    go_wp2_with fail
    have HKS := hide (show ∀ W : World, Below w2.heap.size w2 W → (W.cell? ⟨w.heap.size, 0, none⟩ = some (.int .i64 k1) ∧ W.cell? ⟨w.heap.size, 1, none⟩ = some (.string s1) ∧ W.cell? ⟨w.heap.size, 2, none⟩ = some (.slice y1 m1 c1) ∧ W.cell? ⟨lb, lo + q, none⟩ = some (.slice pa X.length pc)) from fun W h => ⟨(h.cell (p := ⟨w.heap.size, 0, none⟩) (HS2.out.get 0 rfl).lt).trans ((HS2.out.get 0 rfl).cell 0), (h.cell (p := ⟨w.heap.size, 1, none⟩) (HS2.out.get 0 rfl).lt).trans ((HS2.out.get 0 rfl).cell 1), (h.cell (p := ⟨w.heap.size, 2, none⟩) (HS2.out.get 0 rfl).lt).trans ((HS2.out.get 0 rfl).cell 2), (h.cell (p := ⟨lb, lo + q, none⟩) hlb).trans HG.out⟩)
    have HDp := hide (fun (V : World) (h : Below w2.heap.size w2 V) => (HD.out.below HS2.out.below).below h)
    refine rgC (fun W => W.cell? ⟨w.heap.size, 0, none⟩ = some (.int .i64 k1) ∧ W.cell? ⟨w.heap.size, 1, none⟩ = some (.string s1) ∧ W.cell? ⟨w.heap.size, 2, none⟩ = some (.slice y1 m1 c1) ∧ W.cell? ⟨lb, lo + q, none⟩ = some (.slice pa X.length pc)) (HKS.out _ (bl_dr (Below.refl _ w2))) fun W0 hW0 => ?_
    have hB0 : Below w2.heap.size w2 W0 := hW0 ▸ bl_dr (Below.refl _ w2)
    have HR0 := hide (St.onto hW0 HS2.out.dr)
    have hSn := HKS.out _ hB0
    clear hW0 HS2 HG
    refine tC 0 hSn ?_
    refine tC 1 hSn ?_
    refine tC 2 hSn ?_
    refine tC 3 hSn ?_
    refine tC 4 hSn ?_
    refine tC 5 hSn ?_
    refine tC 6 hSn ?_
    refine tC 7 hSn ?_
    refine tC 8 hSn ?_
    clear hSn
    refine rY 9 fun K hK => ?_
    go_simp
    refine (asks_any (w := W0) (HDp.out _ hB0) hcnt (HXp.out _ hB0)).mono ?_
    rintro e X1 ⟨rfl, hb1⟩
    have HR1 := hide (HR0.out.call hb1)
    have hB1 := hB0.trans (hb1.mono hB0.size)
    clear hb1 HR0 hB0
    go_simp
    refine onK hK (HKS.out _ hB1) ?_
    clear hK K
    have hSn := HKS.out _ hB1
    refine tC 10 hSn ?_
    clear hSn
    refine wpAnyH_done (by kernel_rfl) ?_ _
    go_wp2_with fail
    go_ret
    exact ⟨rfl, HR1.out.below⟩
end Go.Proofs.YtacgmmpdichlmaaGreat
