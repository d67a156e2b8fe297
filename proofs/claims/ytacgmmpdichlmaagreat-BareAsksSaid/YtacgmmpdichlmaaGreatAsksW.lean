/-
  The walk of BareAsks: it gives true.
  Its conditions: the values read as nodes, numbers and bytes; the number is a byte.
-/
import Derived.Test.YtacgmmpdichlmaaGreatM40
import Derived.Test.YtacgmmpdichlmaaGreatM04
import Derived.Test.YtacgmmpdichlmaaGreatM39
import Derived.Test.YtacgmmpdichlmaaGreatM30
import Derived.Test.YtacgmmpdichlmaaGreatM36
namespace Go.Proofs.YtacgmmpdichlmaaGreat
open Go.RowKit
attribute [local go_sem ↓] Go.wp_at_zero Go.wp_at_succ

set_option maxRecDepth 100000 in
set_option maxHeartbeats 8000000 in
theorem asksW_any {na nb : Nd} {va vb vu : Value} {p : List Int} (a : Option Addr) (m cap : Nat) (c : List Int) (a' : Option Addr) (m' cap' : Nat) (c' : List Int) (k : Int) (w : World) (hA : Is w na va) (hB : Is w nb vb) (hP : IsPath w (· < w.heap.size) vu p) (hI : IsBytes w (· < w.heap.size) a m c) (hJ : IsBytes w (· < w.heap.size) a' m' c') (hcap : m' ≤ cap') (hk0 : 0 ≤ k) (hk1 : k ≤ 255) : Calls Tryz.prog 3 #[va, vb, vu, .slice a m cap, .slice a' m' cap', .int .u8 k] w (Says true w) := by
  obtain ⟨k1, s1, y1, m1, c1, rfl⟩ := hA.form
  obtain ⟨k2, s2, y2, m2, c2, rfl⟩ := hB.form
  obtain ⟨pa, pc, rfl, hpl, -⟩ := id hP
  simp only [maxLen] at hpl
  have HA := hide hA
  have HB := hide hB
  have HP := hide hP
  have HI := hide hI
  have HJ := hide hJ
  clear hA hB hP hI hJ
  have hra := weight_range na
  have hrb := weight_range nb
  obtain ⟨A, hwA⟩ : ∃ A, weightN na = A := ⟨_, rfl⟩
  obtain ⟨B, hwB⟩ : ∃ B, weightN nb = B := ⟨_, rfl⟩
  have HWA := hide hwA
  have HWB := hide hwB
  rw [hwA] at hra
  rw [hwB] at hrb
  clear hwA hwB
  go_enter Tryz.func3, Tryz.ntmps3
  go_wp2_with fail
  refine namedWp fun W1 hW1 => ?_
  have HS1 := onS hW1 (St.nil w).va.va
  clear hW1
  have HKS := hide (show ∀ W : World, Below W1.heap.size W1 W → (W.cell? ⟨w.heap.size, 0, none⟩ = some (.int .i64 k1) ∧ W.cell? ⟨w.heap.size, 1, none⟩ = some (.string s1) ∧ W.cell? ⟨w.heap.size, 2, none⟩ = some (.slice y1 m1 c1) ∧ W.cell? ⟨w.heap.size + 1, 0, none⟩ = some (.int .i64 k2) ∧ W.cell? ⟨w.heap.size + 1, 1, none⟩ = some (.string s2) ∧ W.cell? ⟨w.heap.size + 1, 2, none⟩ = some (.slice y2 m2 c2)) from fun W h => ⟨(h.cell (p := ⟨w.heap.size, 0, none⟩) (HS1.out.get 0 rfl).lt).trans ((HS1.out.get 0 rfl).cell 0), (h.cell (p := ⟨w.heap.size, 1, none⟩) (HS1.out.get 0 rfl).lt).trans ((HS1.out.get 0 rfl).cell 1), (h.cell (p := ⟨w.heap.size, 2, none⟩) (HS1.out.get 0 rfl).lt).trans ((HS1.out.get 0 rfl).cell 2), (h.cell (p := ⟨w.heap.size + 1, 0, none⟩) (HS1.out.get 1 rfl).lt).trans ((HS1.out.get 1 rfl).cell 0), (h.cell (p := ⟨w.heap.size + 1, 1, none⟩) (HS1.out.get 1 rfl).lt).trans ((HS1.out.get 1 rfl).cell 1), (h.cell (p := ⟨w.heap.size + 1, 2, none⟩) (HS1.out.get 1 rfl).lt).trans ((HS1.out.get 1 rfl).cell 2)⟩)
  have HAp := hide (fun (V : World) (h : Below W1.heap.size W1 V) => (HA.out.below HS1.out.below).below h)
  have HBp := hide (fun (V : World) (h : Below W1.heap.size W1 V) => (HB.out.below HS1.out.below).below h)
  refine rgC (fun W => W.cell? ⟨w.heap.size, 0, none⟩ = some (.int .i64 k1) ∧ W.cell? ⟨w.heap.size, 1, none⟩ = some (.string s1) ∧ W.cell? ⟨w.heap.size, 2, none⟩ = some (.slice y1 m1 c1) ∧ W.cell? ⟨w.heap.size + 1, 0, none⟩ = some (.int .i64 k2) ∧ W.cell? ⟨w.heap.size + 1, 1, none⟩ = some (.string s2) ∧ W.cell? ⟨w.heap.size + 1, 2, none⟩ = some (.slice y2 m2 c2)) (HKS.out _ (bl_dr (Below.refl _ W1))) fun W0 hW0 => ?_
  have hB0 : Below W1.heap.size W1 W0 := hW0 ▸ bl_dr (Below.refl _ W1)
  have HR0 := hide (St.onto hW0 HS1.out.dr)
  have hSn := HKS.out _ hB0
  clear hW0 HS1
  refine tC 0 hSn ?_
  refine tC 2 hSn ?_
  clear hSn
  refine rY 1 fun K hK => ?_
  go_simp
  refine (weight_any (w := W0) (HAp.out _ hB0)).mono ?_
  rintro e X1 ⟨rfl, hb1⟩
  rw [HWA.out]
  have HR1 := hide (HR0.out.call hb1)
  have hB1 := hB0.trans (hb1.mono hB0.size)
  clear hb1 HR0 hB0
  go_simp
  refine onK hK (HKS.out _ hB1) ?_
  clear hK K
  have hSn := HKS.out _ hB1
  clear hSn
  refine rY 3 fun K hK => ?_
  go_simp
  refine (weight_any (w := X1) (HBp.out _ hB1)).mono ?_
  rintro e X2 ⟨rfl, hb2⟩
  rw [HWB.out]
  have HR2 := hide (HR1.out.call hb2)
  have hB2 := hB1.trans (hb2.mono hB1.size)
  clear hb2 HR1 hB1
  go_simp
  refine onK hK (HKS.out _ hB2) ?_
  clear hK K
  have hSn := HKS.out _ hB2
  have hwr : IntKind.i64.wrap (A + B) = A + B := IntWalk.i64_in _ (by omega)
  by_cases hw : 300 < A + B
  ·
    refine tC 4 hSn ?_
    refine tC 5 hSn ?_
    refine tC 6 hSn ?_
    refine tN 7 hSn ?_
    refine tN 8 hSn ?_
    refine tN 9 hSn ?_
    refine tC 10 hSn ?_
    refine tC 11 hSn ?_
    refine rY 12 fun K hK => ?_
    go_simp
    refine onK hK hSn ?_
    clear hK K
    refine tN 13 hSn ?_
    refine tC 14 hSn ?_
    clear hSn
    refine wpAnyH_done (by kernel_rfl) ?_ _
    have p0 := rD HR2
    go_wp2_with fail
    refine (known_any X2).mono ?_
    rintro e w8 ⟨rfl, hb8⟩
    have HS8 := hide (HR2.out.call hb8)
    clear hb8 p0
    go_wp2_with fail
    go_ret
    exact ⟨rfl, HS8.out.below⟩
  by_cases hp : (50 : Int) < (p.length : Int)
  ·
    refine tC 4 hSn ?_
    refine tC 5 hSn ?_
    refine tC 6 hSn ?_
    refine tC 7 hSn ?_
    refine tC 8 hSn ?_
    refine tC 9 hSn ?_
    refine tC 10 hSn ?_
    refine tC 11 hSn ?_
    refine rY 12 fun K hK => ?_
    go_simp
    refine onK hK hSn ?_
    clear hK K
    refine tN 13 hSn ?_
    refine tC 14 hSn ?_
    clear hSn
    refine wpAnyH_done (by kernel_rfl) ?_ _
    have p0 := rD HR2
    go_wp2_with fail
    refine (known_any X2).mono ?_
    rintro e w8 ⟨rfl, hb8⟩
    have HS8 := hide (HR2.out.call hb8)
    clear hb8 p0
    go_wp2_with fail
    go_ret
    exact ⟨rfl, HS8.out.below⟩
  refine tC 4 hSn ?_
  refine tC 5 hSn ?_
  refine tC 6 hSn ?_
  refine tC 7 hSn ?_
  refine tC 8 hSn ?_
  refine tC 9 hSn ?_
  refine tC 10 hSn ?_
  refine tC 11 hSn ?_
  clear hSn
  refine rY 12 fun K hK => ?_
  go_simp
  refine (known_any X2).mono ?_
  rintro e X3 ⟨rfl, hb3⟩
  have HR3 := hide (HR2.out.call hb3)
  have hB3 := hB2.trans (hb3.mono hB2.size)
  clear hb3 HR2 hB2
  go_simp
  refine onK hK (HKS.out _ hB3) ?_
  clear hK K
  have hSn := HKS.out _ hB3
  refine tC 13 hSn ?_
  refine tC 14 hSn ?_
  clear hSn
  refine wpAnyH_done (by kernel_rfl) ?_ _
  have hca : na.count ≤ 900000 := by have := weight_count (d := na) (by rw [HWA.out]; omega); omega
  have hcb : nb.count ≤ 900000 := by have := weight_count (d := nb) (by rw [HWB.out]; omega); omega
  have HA1 := hide (HAp.out _ hB3)
  have HB1 := hide (HBp.out _ hB3)
  have HCA := hide hca
  have HCB := hide hcb
  clear HAp HBp HKS hca hcb hw hp hra hrb hwr
  go_wp2_with fail
  refine (tree_any a m cap c X3 (HI.out.below HR3.out.below)).mono ?_
  rintro e w2 ⟨dx, hcx, k3, s3, y3, m3, c3, rfl, hn2, hb2⟩
  have HS2 := hide (HR3.out.call hb2)
  have HA2 := hide (HA1.out.below hb2)
  have HB2 := hide (HB1.out.below hb2)
  have HX2 := hide (Is.of_new hn2)
  clear hn2 hb2 HR3 HA1 HB1
  have p0 := rD HS2
  go_wp2_with fail
  have lv2 := lV HS2
  refine named fun W3 hW3 => ?_
  have HS3 := onS hW3 HS2.out.va
  have hb3 : Below w2.heap.size w2 W3 := hW3 ▸ (Below.refl _ w2).alloc (Nat.le_refl _) _
  have HA3 := hide (HA2.out.below hb3)
  have HB3 := hide (HB2.out.below hb3)
  have HX3 := hide (HX2.out.below hb3)
  clear hW3 hb3 HS2 HA2 HB2 HX2 p0 lv2
  refine (parsed_any a' m' cap' c' W3 (HJ.out.below HS3.out.below) hcap).mono ?_
  rintro e w4 ⟨⟨dy, k4, s4, y4, m4, c4, ok, rfl, hn4, hcy⟩, hb4⟩
  have HS4 := hide (HS3.out.call hb4)
  have HA4 := hide (HA3.out.below hb4)
  have HB4 := hide (HB3.out.below hb4)
  have HX4 := hide (HX3.out.below hb4)
  have HY4 := hide (Is.of_new hn4)
  clear hn4 hb4 HS3 HA3 HB3 HX3
  have p0 := rD HS4
  go_wp2_with fail
  have lv4 := lV HS4
  refine namedWp fun W5 hW5 => ?_
  have HS5 := onS hW5 HS4.out.va
  have hb5 : Below w4.heap.size w4 W5 := hW5 ▸ (Below.refl _ w4).alloc (Nat.le_refl _) _
  have HA5 := hide (HA4.out.below hb5)
  have HB5 := hide (HB4.out.below hb5)
  have HX5 := hide (HX4.out.below hb5)
  have HY5 := hide (HY4.out.below hb5)
  have HP5 := hide (HP.out.below HS5.out.below)
  clear hW5 hb5 HS4 HA4 HB4 HX4 HY4 p0 lv4
  have hcx9 : dx.count ≤ 900000 := by omega
  have hcy9 : dy.count ≤ 900000 := by omega
  have hcb9 : (bareN dy).count ≤ 900000 := by have := count_bare dy; omega
  have HCX := hide hcx9
  have HCY := hide hcy9
  have HCZ := hide hcb9
  clear hcx9 hcy9 hcb9 hcx hcy
  have HKS := hide (show ∀ W : World, Below W5.heap.size W5 W → (W.cell? ⟨w.heap.size, 0, none⟩ = some (.int .i64 k1) ∧ W.cell? ⟨w.heap.size, 1, none⟩ = some (.string s1) ∧ W.cell? ⟨w.heap.size, 2, none⟩ = some (.slice y1 m1 c1) ∧ W.cell? ⟨w.heap.size + 1, 0, none⟩ = some (.int .i64 k2) ∧ W.cell? ⟨w.heap.size + 1, 1, none⟩ = some (.string s2) ∧ W.cell? ⟨w.heap.size + 1, 2, none⟩ = some (.slice y2 m2 c2) ∧ W.cell? ⟨w2.heap.size, 0, none⟩ = some (.int .i64 k3) ∧ W.cell? ⟨w2.heap.size, 1, none⟩ = some (.string s3) ∧ W.cell? ⟨w2.heap.size, 2, none⟩ = some (.slice y3 m3 c3) ∧ W.cell? ⟨w4.heap.size, 0, none⟩ = some (.int .i64 k4) ∧ W.cell? ⟨w4.heap.size, 1, none⟩ = some (.string s4) ∧ W.cell? ⟨w4.heap.size, 2, none⟩ = some (.slice y4 m4 c4)) from fun W h => ⟨(h.cell (p := ⟨w.heap.size, 0, none⟩) (HS5.out.get 0 rfl).lt).trans ((HS5.out.get 0 rfl).cell 0), (h.cell (p := ⟨w.heap.size, 1, none⟩) (HS5.out.get 0 rfl).lt).trans ((HS5.out.get 0 rfl).cell 1), (h.cell (p := ⟨w.heap.size, 2, none⟩) (HS5.out.get 0 rfl).lt).trans ((HS5.out.get 0 rfl).cell 2), (h.cell (p := ⟨w.heap.size + 1, 0, none⟩) (HS5.out.get 1 rfl).lt).trans ((HS5.out.get 1 rfl).cell 0), (h.cell (p := ⟨w.heap.size + 1, 1, none⟩) (HS5.out.get 1 rfl).lt).trans ((HS5.out.get 1 rfl).cell 1), (h.cell (p := ⟨w.heap.size + 1, 2, none⟩) (HS5.out.get 1 rfl).lt).trans ((HS5.out.get 1 rfl).cell 2), (h.cell (p := ⟨w2.heap.size, 0, none⟩) (HS5.out.get 2 rfl).lt).trans ((HS5.out.get 2 rfl).cell 0), (h.cell (p := ⟨w2.heap.size, 1, none⟩) (HS5.out.get 2 rfl).lt).trans ((HS5.out.get 2 rfl).cell 1), (h.cell (p := ⟨w2.heap.size, 2, none⟩) (HS5.out.get 2 rfl).lt).trans ((HS5.out.get 2 rfl).cell 2), (h.cell (p := ⟨w4.heap.size, 0, none⟩) (HS5.out.get 3 rfl).lt).trans ((HS5.out.get 3 rfl).cell 0), (h.cell (p := ⟨w4.heap.size, 1, none⟩) (HS5.out.get 3 rfl).lt).trans ((HS5.out.get 3 rfl).cell 1), (h.cell (p := ⟨w4.heap.size, 2, none⟩) (HS5.out.get 3 rfl).lt).trans ((HS5.out.get 3 rfl).cell 2)⟩)
  have HAp := hide (fun (V : World) (h : Below W5.heap.size W5 V) => HA5.out.below h)
  have HBp := hide (fun (V : World) (h : Below W5.heap.size W5 V) => HB5.out.below h)
  have HXp := hide (fun (V : World) (h : Below W5.heap.size W5 V) => HX5.out.below h)
  have HYp := hide (fun (V : World) (h : Below W5.heap.size W5 V) => HY5.out.below h)
  have HPp := hide (fun (V : World) (h : Below W5.heap.size W5 V) => HP5.out.below h)
  refine rgC (fun W => W.cell? ⟨w.heap.size, 0, none⟩ = some (.int .i64 k1) ∧ W.cell? ⟨w.heap.size, 1, none⟩ = some (.string s1) ∧ W.cell? ⟨w.heap.size, 2, none⟩ = some (.slice y1 m1 c1) ∧ W.cell? ⟨w.heap.size + 1, 0, none⟩ = some (.int .i64 k2) ∧ W.cell? ⟨w.heap.size + 1, 1, none⟩ = some (.string s2) ∧ W.cell? ⟨w.heap.size + 1, 2, none⟩ = some (.slice y2 m2 c2) ∧ W.cell? ⟨w2.heap.size, 0, none⟩ = some (.int .i64 k3) ∧ W.cell? ⟨w2.heap.size, 1, none⟩ = some (.string s3) ∧ W.cell? ⟨w2.heap.size, 2, none⟩ = some (.slice y3 m3 c3) ∧ W.cell? ⟨w4.heap.size, 0, none⟩ = some (.int .i64 k4) ∧ W.cell? ⟨w4.heap.size, 1, none⟩ = some (.string s4) ∧ W.cell? ⟨w4.heap.size, 2, none⟩ = some (.slice y4 m4 c4)) (HKS.out _ (bl_dr (Below.refl _ W5))) fun W0 hW0 => ?_
  have hB0 : Below W5.heap.size W5 W0 := hW0 ▸ bl_dr (Below.refl _ W5)
  have HR0 := hide (St.onto hW0 HS5.out.dr)
  have hSn := HKS.out _ hB0
  clear hW0 HS5 HA5 HB5 HX5 HY5 HP5
  refine tC 0 hSn ?_
  refine tC 1 hSn ?_
  clear hSn
  refine rY 2 fun K hK => ?_
  go_simp
  refine (asks_any (w := W0) (HAp.out _ hB0) HCA.out (HPp.out _ hB0)).mono ?_
  rintro e X1 ⟨rfl, hb1⟩
  have HR1 := hide (HR0.out.call hb1)
  have hB1 := hB0.trans (hb1.mono hB0.size)
  clear hb1 HR0 hB0
  go_simp
  refine onK hK (HKS.out _ hB1) ?_
  clear hK K
  have hSn := HKS.out _ hB1
  refine tC 3 hSn ?_
  refine tC 4 hSn ?_
  refine tC 5 hSn ?_
  clear hSn
  refine rY 6 fun K hK => ?_
  go_simp
  refine (asks_any (w := X1) (HXp.out _ hB1) HCX.out (HPp.out _ hB1)).mono ?_
  rintro e X2 ⟨rfl, hb2⟩
  have HR2 := hide (HR1.out.call hb2)
  have hB2 := hB1.trans (hb2.mono hB1.size)
  clear hb2 HR1 hB1
  go_simp
  refine onK hK (HKS.out _ hB2) ?_
  clear hK K
  have hSn := HKS.out _ hB2
  refine tC 7 hSn ?_
  refine tC 8 hSn ?_
  refine tC 9 hSn ?_
  refine tC 10 hSn ?_
  clear hSn
  refine rY 11 fun K hK => ?_
  go_simp
  refine (asks_any (w := X2) (HYp.out _ hB2) HCY.out (HPp.out _ hB2)).mono ?_
  rintro e X3 ⟨rfl, hb3⟩
  have HR3 := hide (HR2.out.call hb3)
  have hB3 := hB2.trans (hb3.mono hB2.size)
  clear hb3 HR2 hB2
  go_simp
  refine onK hK (HKS.out _ hB3) ?_
  clear hK K
  have hSn := HKS.out _ hB3
  refine tC 12 hSn ?_
  refine tC 13 hSn ?_
  refine tC 14 hSn ?_
  refine tC 15 hSn ?_
  clear hSn
  refine rY 16 fun K hK => ?_
  go_simp
  refine (sameLaw_any (w := X3) (HAp.out _ hB3) (HBp.out _ hB3) HCA.out HCB.out).mono ?_
  rintro e X4 ⟨rfl, hb4⟩
  have HR4 := hide (HR3.out.call hb4)
  have hB4 := hB3.trans (hb4.mono hB3.size)
  clear hb4 HR3 hB3
  go_simp
  refine onK hK (HKS.out _ hB4) ?_
  clear hK K
  have hSn := HKS.out _ hB4
  refine tC 17 hSn ?_
  refine tC 18 hSn ?_
  refine tC 19 hSn ?_
  refine tC 20 hSn ?_
  clear hSn
  refine rY 21 fun K hK => ?_
  go_simp
  refine (sameLaw_any (w := X4) (HXp.out _ hB4) (HAp.out _ hB4) HCX.out HCA.out).mono ?_
  rintro e X5 ⟨rfl, hb5⟩
  have HR5 := hide (HR4.out.call hb5)
  have hB5 := hB4.trans (hb5.mono hB4.size)
  clear hb5 HR4 hB4
  go_simp
  refine onK hK (HKS.out _ hB5) ?_
  clear hK K
  have hSn := HKS.out _ hB5
  refine tC 22 hSn ?_
  refine tC 23 hSn ?_
  refine tC 24 hSn ?_
  refine tC 25 hSn ?_
  clear hSn
  refine rY 26 fun K hK => ?_
  go_simp
  refine (refBare_any dy _ X5 (HYp.out _ hB5) HCY.out).mono ?_
  rintro e X6 ⟨k6, s6, y6, m6, c6, rfl, hn6, hb6⟩
  have HR6 := hide (HR5.out.call hb6)
  have hB6 := hB5.trans (hb6.mono hB5.size)
  have HZ6 := hide (Is.of_new hn6)
  clear hn6
  clear hb6 HR5 hB5
  go_simp
  refine onK hK (HKS.out _ hB6) ?_
  clear hK K
  have hSn := HKS.out _ hB6
  clear hSn
  refine rY 27 fun K hK => ?_
  go_simp
  refine (sameLaw_any (w := X6) (HYp.out _ hB6) HZ6.out HCY.out HCZ.out).mono ?_
  rintro e X7 ⟨rfl, hb7⟩
  have HR7 := hide (HR6.out.call hb7)
  have hB7 := hB6.trans (hb7.mono hB6.size)
  clear HZ6
  clear hb7 HR6 hB6
  go_simp
  refine onK hK (HKS.out _ hB7) ?_
  clear hK K
  have hSn := HKS.out _ hB7
  refine tC 28 hSn ?_
  refine tC 29 hSn ?_
  refine tC 30 hSn ?_
  refine tC 31 hSn ?_
  clear hSn
  refine rY 32 fun K hK => ?_
  go_simp
  refine (oneLaw_any (w := X7) (HXp.out _ hB7) HCX.out hk0 hk1).mono ?_
  rintro e X8 ⟨rfl, hb8⟩
  have HR8 := hide (HR7.out.call hb8)
  have hB8 := hB7.trans (hb8.mono hB7.size)
  clear hb8 HR7 hB7
  go_simp
  refine onK hK (HKS.out _ hB8) ?_
  clear hK K
  have hSn := HKS.out _ hB8
  refine tC 33 hSn ?_
  refine tC 34 hSn ?_
  refine tC 35 hSn ?_
  refine tC 36 hSn ?_
  clear hSn
  refine rY 37 fun K hK => ?_
  go_simp
  refine (oneLaw_any (w := X8) (HYp.out _ hB8) HCY.out hk0 hk1).mono ?_
  rintro e X9 ⟨rfl, hb9⟩
  have HR9 := hide (HR8.out.call hb9)
  have hB9 := hB8.trans (hb9.mono hB8.size)
  clear hb9 HR8 hB8
  go_simp
  refine onK hK (HKS.out _ hB9) ?_
  clear hK K
  have hSn := HKS.out _ hB9
  refine tC 38 hSn ?_
  refine tC 39 hSn ?_
  clear hSn
  refine wpAnyH_done (by kernel_rfl) ?_ _
  go_wp2_with fail
  go_ret
  exact ⟨rfl, HR9.out.below⟩
end Go.Proofs.YtacgmmpdichlmaaGreat
