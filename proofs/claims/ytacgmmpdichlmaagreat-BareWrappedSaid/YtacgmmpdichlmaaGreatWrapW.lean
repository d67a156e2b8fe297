/-
  The walk of BareWrapped: it gives true.
  Its conditions: the slice reads as bytes, the numbers are bytes.
-/
import Derived.Test.YtacgmmpdichlmaaGreatPick
import Derived.Test.YtacgmmpdichlmaaGreatM39
namespace Go.Proofs.YtacgmmpdichlmaaGreat
open Go.RowKit
attribute [local go_sem ↓] Go.wp_at_zero Go.wp_at_succ

theorem wrap_count (d : Nd) : ∀ n, (wrapN d n).count = d.count + n
  | 0 => rfl
  | n + 1 => by
    rw [wrapN, count_mk, Nds.count, Nds.count, wrap_count d n]
    omega
/-- A node in brackets. -/
theorem wrap_is {w : World} {F : Nat → Prop} {d : Nd} {n : Nat} {c0 c1 c2 : Value} (h : IsNd w F (wrapN d n) (.agg #[c0, c1, c2])) (hF : ∀ b, F b → b < w.heap.size) : IsNd (w.alloc (.cells #[c0, c1, c2] 24)) (fun b => F b ∨ b = w.heap.size) (wrapN d (n + 1)) (.agg #[.int .i64 12, .string ⟨#[]⟩, .slice (some ⟨w.heap.size, 0, none⟩) 1 1]) := by
  have h1 := IsSl.lit (t := 24) (IsRow.one h) hF (by simp [maxLen])
  exact IsNd.join (k := 12) (s := ⟨#[]⟩) (by omega) (by decide) h1
theorem without_wrap (d : Nd) (n : Nat) : withoutN [] (wrapN d (n + 1)) = some (wrapN d n) := by
  have hb : (wrapN d (n + 1)).br = true := by rw [wrapN]; rfl
  rw [withoutN, atN, Option.bind_some, if_pos hb, withN]
  rw [wrapN, openN, bareOf, if_pos rfl]
set_option maxRecDepth 100000 in
set_option maxHeartbeats 8000000 in
theorem wrapped_any (a : Option Addr) (m cap : Nat) (c : List Int) (many k : Int) (w : World) (hI : IsBytes w (· < w.heap.size) a m c) (hcap : m ≤ cap) (hm0 : 0 ≤ many) (_hm1 : many ≤ 255) (hk0 : 0 ≤ k) (hk1 : k ≤ 255) : Calls Tryz.prog 5 #[.slice a m cap, .int .u8 many, .int .u8 k] w (Says true w) := by
  have HI := hide hI
  clear hI
  obtain ⟨K, hK, hK20⟩ : ∃ K : Nat, many % 20 = (K : Int) ∧ K < 20 := ⟨(many % 20).toNat, by omega, by omega⟩
  have hkt : many.tmod 20 = (K : Int) := by rw [Int.tmod_eq_emod_of_nonneg hm0, hK]
  have h256 : (K : Int) % 256 = (K : Int) := by omega
  have ew1 : IntKind.u8.wrap (K : Int) = (K : Int) := by simp [IntKind.wrap, IntKind.signed, IntKind.bits, h256]
  clear h256
  have ew2 : IntKind.i64.wrap (K : Int) = (K : Int) := IntWalk.i64_in _ (by omega)
  go_enter Tryz.func5, Tryz.ntmps5
  go_wp2_with fail
  refine (pick_any a m cap c k w HI.out hcap hk0 hk1).mono ?_
  rintro e w1 ⟨d, hcnt, k1, s1, y1, m1, c1, rfl, hn1, hb1⟩
  have HS1 := hide ((St.nil w).call hb1)
  have HN1 := hide (Is.of_new hn1)
  clear hn1 hb1
  go_wp2_with fail
  refine namedWp fun W2 hW2 => ?_
  have HS2 := onS hW2 HS1.out.va.va
  have hb2 : Below w1.heap.size w1 W2 := hW2 ▸ ((Below.refl _ w1).alloc (Nat.le_refl _) _).alloc (by simp) _
  have hz2 : W2.heap.size = w1.heap.size + 2 := by rw [hW2]; simp
  have HNp := hide (fun (V : World) (h : Below w1.heap.size w1 V) => HN1.out.below h)
  have HN2 := hide (show IsNd W2 (fun q => q < W2.heap.size ∧ q ≠ w1.heap.size + 1) (wrapN d 0) (.agg #[.int .i64 k1, .string s1, .slice y1 m1 c1]) from IsNd.keep (fun q hq => ⟨⟨by omega, by omega⟩, hb2.block q hq⟩) _ _ HN1.out)
  clear hW2 HS1 HN1 hkt ew1 ew2
  go_loopw [10] (fun iv wr => ∃ (i : Nat) (k : Int) (s : ByteArray) (y : Option Addr) (m c : Nat), iv = .int .i64 i ∧ i ≤ K ∧ St w wr [ne w1.heap.size k1 s1 y1 m1 c1, ne (w1.heap.size + 1) k s y m c] ∧ Below w1.heap.size w1 wr ∧ IsNd wr (fun q => q < wr.heap.size ∧ q ≠ w1.heap.size + 1) (wrapN d i) (.agg #[.int .i64 k, .string s, .slice y m c])) (fun iv _ => K - (intOf iv).toNat)
  case atStart => exact ⟨0, k1, s1, y1, m1, c1, rfl, Nat.zero_le _, HS2.out, hb2, HN2.out⟩
  obtain ⟨i, k2, s2, y2, m2, c2, rfl, hi, hS, hbr, hN⟩ := hrel
  have HSr := hide hS
  have HBr := hide hbr
  have HNr := hide hN
  clear hS hbr hN HS2 HN2 hb2
  by_cases hlt : i < K
  ·
    have hlti : (i : Int) < (K : Int) := by omega
    have p0 := rD HSr
    have hlm := (HSr.out.get 1 rfl).lt
    have hW : ∃ W3, W3 = ((wr.setCell ⟨w1.heap.size + 1, 0, none⟩ (.int .i64 12)).setCell ⟨w1.heap.size + 1, 1, none⟩ (.string ⟨#[]⟩)).setCell ⟨w1.heap.size + 1, 2, none⟩ (.slice (some ⟨wr.heap.size, 0, none⟩) 1 1) := ⟨_, rfl⟩
    obtain ⟨W3, hW3⟩ := hW
    have hz3 : W3.heap.size = wr.heap.size := by rw [hW3]; simp
    have hn3 : IsNd W3 (fun q => q < wr.heap.size ∧ q ≠ w1.heap.size + 1) (wrapN d i) (.agg #[.int .i64 k2, .string s2, .slice y2 m2 c2]) := IsNd.keep (fun q hq => ⟨hq, by rw [hW3]; exact heap_st3 hq.2 _ _ _⟩) _ _ HNr.out
    have hn4 := wrap_is hn3 (fun q hq => by rw [hz3]; exact hq.1)
    have HS4 := hide (show St w (W3.alloc (.cells #[.int .i64 k2, .string s2, .slice y2 m2 c2] 24)) [ne w1.heap.size k1 s1 y1 m1 c1, ne (w1.heap.size + 1) 12 ⟨#[]⟩ (some ⟨wr.heap.size, 0, none⟩) 1 1] from hW3 ▸ (HSr.out.st3 1 rfl _ _ _).al _)
    have HB4 := hide (show Below w1.heap.size w1 (W3.alloc (.cells #[.int .i64 k2, .string s2, .slice y2 m2 c2] 24)) from bl_al (hW3 ▸ bl_st3 HBr.out (by omega) _ _ _) _)
    rw [hz3] at hn4
    have HN4 := hide (show IsNd (W3.alloc (.cells #[.int .i64 k2, .string s2, .slice y2 m2 c2] 24)) (fun q => q < (W3.alloc (.cells #[.int .i64 k2, .string s2, .slice y2 m2 c2] 24)).heap.size ∧ q ≠ w1.heap.size + 1) (wrapN d (i + 1)) (.agg #[.int .i64 12, .string ⟨#[]⟩, .slice (some ⟨wr.heap.size, 0, none⟩) 1 1]) from IsNd.keep (fun q hq => ⟨⟨by simp; omega, by omega⟩, rfl⟩) _ _ hn4)
    rw [hW3] at HS4 HB4 HN4
    clear hn3 hn4 hW3 hz3
    go_wp2_with fail
    exact ⟨⟨i + 1, _, _, _, _, _, by go_num, by omega, HS4.out, HB4.out, HN4.out⟩, by simp [intOf]; omega⟩
  have hlti : ¬ (i : Int) < (K : Int) := by omega
  obtain rfl : i = K := by omega
  have hwc := wrap_count d i
  have HIS := hide (show Is wr (wrapN d i) (.agg #[.int .i64 k2, .string s2, .slice y2 m2 c2]) from IsNd.keep (fun q hq => ⟨hq.1, rfl⟩) _ _ HNr.out)
  have HCM := hide (show (wrapN d i).count ≤ 900000 by omega)
  have HCD := hide (show d.count ≤ 900000 by omega)
  have HDr := hide (HNp.out wr HBr.out)
  clear hwc HNr HBr HNp
  obtain ⟨ob, hob⟩ : ∃ ob, (withoutN [] (wrapN d i)).isSome = ob := ⟨_, rfl⟩
  obtain ⟨Z, hZ⟩ : ∃ Z, (withoutN [] (wrapN d i)).getD zN = Z := ⟨_, rfl⟩
  have HOB := hide hob
  have HZ := hide hZ
  clear hob hZ
  have p0 := rD HSr
  go_wp2_with fail
  refine (without_any (w := wr) HIS.out HCM.out IsPath.nil).mono ?_
  intro e w4 hat
  obtain ⟨k3, s3, y3, m3, c3, rfl, hn4, hb4⟩ := hat.form3
  rw [HOB.out]
  have HS4 := hide (HSr.out.call hb4)
  have HD4 := hide (HDr.out.below hb4)
  have HI4 := hide (HIS.out.below hb4)
  have HX4 := hide (show Is w4 Z _ from HZ.out ▸ Is.of_new hn4)
  clear hat hn4 hb4 HSr HDr HIS p0
  have p0 := rD HS4
  go_wp2_with fail
  have lv4 := lV HS4
  refine namedWp fun W5 hW5 => ?_
  have HS5 := onS hW5 HS4.out.va
  have hb5 : Below w4.heap.size w4 W5 := hW5 ▸ (Below.refl _ w4).alloc (Nat.le_refl _) _
  have HD5 := hide (HD4.out.below hb5)
  have HI5 := hide (HI4.out.below hb5)
  have HX5 := hide (HX4.out.below hb5)
  clear hW5 hb5 HS4 HD4 HI4 HX4 p0 lv4
  obtain ⟨Bd, hBd⟩ : ∃ Bd, (bracksN d).length = Bd := ⟨_, rfl⟩
  have hbc := count_bare d
  rw [hBd] at hbc
  have hbd9 : Bd ≤ 900000 := by omega
  obtain ⟨M, hM⟩ : ∃ M, (bracksN (wrapN d i)).length = M := ⟨_, rfl⟩
  have hbw := bracks_wrap d i
  rw [hM, hBd] at hbw
  have HBD := hide hBd
  have HM := hide hM
  have HBW := hide hbw
  clear hBd hM hbc hbw
  have HKS := hide (show ∀ W : World, Below W5.heap.size W5 W → (W.cell? ⟨w1.heap.size, 0, none⟩ = some (.int .i64 k1) ∧ W.cell? ⟨w1.heap.size, 1, none⟩ = some (.string s1) ∧ W.cell? ⟨w1.heap.size, 2, none⟩ = some (.slice y1 m1 c1) ∧ W.cell? ⟨w1.heap.size + 1, 0, none⟩ = some (.int .i64 k2) ∧ W.cell? ⟨w1.heap.size + 1, 1, none⟩ = some (.string s2) ∧ W.cell? ⟨w1.heap.size + 1, 2, none⟩ = some (.slice y2 m2 c2) ∧ W.cell? ⟨w4.heap.size, 0, none⟩ = some (.int .i64 k3) ∧ W.cell? ⟨w4.heap.size, 1, none⟩ = some (.string s3) ∧ W.cell? ⟨w4.heap.size, 2, none⟩ = some (.slice y3 m3 c3)) from fun W h => ⟨(h.cell (p := ⟨w1.heap.size, 0, none⟩) (HS5.out.get 0 rfl).lt).trans ((HS5.out.get 0 rfl).cell 0), (h.cell (p := ⟨w1.heap.size, 1, none⟩) (HS5.out.get 0 rfl).lt).trans ((HS5.out.get 0 rfl).cell 1), (h.cell (p := ⟨w1.heap.size, 2, none⟩) (HS5.out.get 0 rfl).lt).trans ((HS5.out.get 0 rfl).cell 2), (h.cell (p := ⟨w1.heap.size + 1, 0, none⟩) (HS5.out.get 1 rfl).lt).trans ((HS5.out.get 1 rfl).cell 0), (h.cell (p := ⟨w1.heap.size + 1, 1, none⟩) (HS5.out.get 1 rfl).lt).trans ((HS5.out.get 1 rfl).cell 1), (h.cell (p := ⟨w1.heap.size + 1, 2, none⟩) (HS5.out.get 1 rfl).lt).trans ((HS5.out.get 1 rfl).cell 2), (h.cell (p := ⟨w4.heap.size, 0, none⟩) (HS5.out.get 2 rfl).lt).trans ((HS5.out.get 2 rfl).cell 0), (h.cell (p := ⟨w4.heap.size, 1, none⟩) (HS5.out.get 2 rfl).lt).trans ((HS5.out.get 2 rfl).cell 1), (h.cell (p := ⟨w4.heap.size, 2, none⟩) (HS5.out.get 2 rfl).lt).trans ((HS5.out.get 2 rfl).cell 2)⟩)
  have HDp := hide (fun (V : World) (h : Below W5.heap.size W5 V) => HD5.out.below h)
  have HIp := hide (fun (V : World) (h : Below W5.heap.size W5 V) => HI5.out.below h)
  have HXp := hide (fun (V : World) (h : Below W5.heap.size W5 V) => HX5.out.below h)
  refine rgC (fun W => W.cell? ⟨w1.heap.size, 0, none⟩ = some (.int .i64 k1) ∧ W.cell? ⟨w1.heap.size, 1, none⟩ = some (.string s1) ∧ W.cell? ⟨w1.heap.size, 2, none⟩ = some (.slice y1 m1 c1) ∧ W.cell? ⟨w1.heap.size + 1, 0, none⟩ = some (.int .i64 k2) ∧ W.cell? ⟨w1.heap.size + 1, 1, none⟩ = some (.string s2) ∧ W.cell? ⟨w1.heap.size + 1, 2, none⟩ = some (.slice y2 m2 c2) ∧ W.cell? ⟨w4.heap.size, 0, none⟩ = some (.int .i64 k3) ∧ W.cell? ⟨w4.heap.size, 1, none⟩ = some (.string s3) ∧ W.cell? ⟨w4.heap.size, 2, none⟩ = some (.slice y3 m3 c3)) (HKS.out _ (bl_dr (Below.refl _ W5))) fun W0 hW0 => ?_
  have hB0 : Below W5.heap.size W5 W0 := hW0 ▸ bl_dr (Below.refl _ W5)
  have HR0 := hide (St.onto hW0 HS5.out.dr)
  have hSn := HKS.out _ hB0
  clear hW0 HS5 HD5 HI5 HX5
  clear hSn
  refine rY 0 fun K hK => ?_
  go_simp
  refine (known_any W0).mono ?_
  rintro e X1 ⟨rfl, hb1⟩
  have HR1 := hide (HR0.out.call hb1)
  have hB1 := hB0.trans (hb1.mono hB0.size)
  clear hb1 HR0 hB0
  go_simp
  refine onK hK (HKS.out _ hB1) ?_
  clear hK K
  have hSn := HKS.out _ hB1
  refine tC 1 hSn ?_
  refine tC 2 hSn ?_
  refine tC 4 hSn ?_
  clear hSn
  refine rY 3 fun K hK => ?_
  go_simp
  refine (bare_any (w := X1) (HIp.out _ hB1) HCM.out).mono ?_
  rintro e X2 ⟨k5, s5, y5, m5, c5, rfl, hn5, hb2⟩
  have HR2 := hide (HR1.out.call hb2)
  have hB2 := hB1.trans (hb2.mono hB1.size)
  have HA5 := hide (show Is X2 (bareN d) _ from bare_wrap d i ▸ Is.of_new hn5)
  clear hn5
  clear hb2 HR1 hB1
  go_simp
  refine onK hK (HKS.out _ hB2) ?_
  clear hK K
  have hSn := HKS.out _ hB2
  clear hSn
  refine rY 5 fun K hK => ?_
  go_simp
  refine (bare_any (w := X2) (HDp.out _ hB2) HCD.out).mono ?_
  rintro e X3 ⟨k6, s6, y6, m6, c6, rfl, hn6, hb3⟩
  have HR3 := hide (HR2.out.call hb3)
  have hB3 := hB2.trans (hb3.mono hB2.size)
  have HA6 := hide (HA5.out.below hb3)
  have HB6 := hide (Is.of_new hn6)
  clear hn6 HA5
  clear hb3 HR2 hB2
  go_simp
  refine onK hK (HKS.out _ hB3) ?_
  clear hK K
  have hSn := HKS.out _ hB3
  clear hSn
  refine rY 6 fun K hK => ?_
  go_simp
  refine (refSame_any (bareN d) (bareN d) _ _ X3 HA6.out HB6.out).mono ?_
  rintro e X4 ⟨rfl, hb4⟩
  rw [sameN_refl]
  have HR4 := hide (HR3.out.call hb4)
  have hB4 := hB3.trans (hb4.mono hB3.size)
  clear HA6 HB6
  clear hb4 HR3 hB3
  go_simp
  refine onK hK (HKS.out _ hB4) ?_
  clear hK K
  have hSn := HKS.out _ hB4
  refine tC 7 hSn ?_
  refine tC 8 hSn ?_
  refine tC 9 hSn ?_
  refine tC 12 hSn ?_
  refine tC 15 hSn ?_
  clear hSn
  refine rY 10 fun K hK => ?_
  go_simp
  refine (brackets_any (w := X4) (HIp.out _ hB4) HCM.out).mono ?_
  rintro e X5 ⟨pa, pc, rfl, hp, hb5⟩
  rw [HM.out]
  have HR5 := hide (HR4.out.call hb5)
  have hB5 := hB4.trans (hb5.mono hB4.size)
  clear hp
  clear hb5 HR4 hB4
  go_simp
  refine onK hK (HKS.out _ hB5) ?_
  clear hK K
  have hSn := HKS.out _ hB5
  refine tC 11 hSn ?_
  clear hSn
  refine rY 13 fun K hK => ?_
  go_simp
  refine (brackets_any (w := X5) (HDp.out _ hB5) HCD.out).mono ?_
  rintro e X6 ⟨qa, qc, rfl, hp, hb6⟩
  rw [HBD.out]
  have HR6 := hide (HR5.out.call hb6)
  have hB6 := hB5.trans (hb6.mono hB5.size)
  clear hp
  clear hb6 HR5 hB5
  go_simp
  refine onK hK (HKS.out _ hB6) ?_
  clear hK K
  have hSn := HKS.out _ hB6
  refine tC 14 hSn ?_
  have hadd : (Bd : Int) + (i : Int) = (M : Int) := by have := HBW.out; omega
  have hM9 : M ≤ 900100 := by have := HBW.out; omega
  have hwM : IntKind.i64.wrap (M : Int) = (M : Int) := IntWalk.i64_in _ (by omega)
  refine tC 16 hSn ?_
  refine tC 17 hSn ?_
  refine tC 18 hSn ?_
  refine tC 19 hSn ?_
  refine tC 20 hSn ?_
  clear hadd hwM hM9
  by_cases h0 : i = 0
  ·
    have h0i : ((i : Int) == 0) = true := by simp [h0]
    refine tC 21 hSn ?_
    refine tC 22 hSn ?_
    refine tN 23 hSn ?_
    refine tN 24 hSn ?_
    refine tN 25 hSn ?_
    refine tN 28 hSn ?_
    refine rY 26 fun K hK => ?_
    go_simp
    refine onK hK hSn ?_
    clear hK K
    refine tN 27 hSn ?_
    refine rY 29 fun K hK => ?_
    go_simp
    refine onK hK hSn ?_
    clear hK K
    refine tN 30 hSn ?_
    refine tN 31 hSn ?_
    refine tN 32 hSn ?_
    refine tN 33 hSn ?_
    refine tC 34 hSn ?_
    refine tC 35 hSn ?_
    refine tC 36 hSn ?_
    clear hSn
    refine wpAnyH_done (by kernel_rfl) ?_ _
    go_wp2_with fail
    go_ret
    exact ⟨rfl, HR6.out.below⟩
  obtain ⟨j, rfl⟩ : ∃ j, i = j + 1 := ⟨i - 1, by omega⟩
  have h0i : (((j + 1 : Nat) : Int) == 0) = false := by rw [beq_eq_false_iff_ne]; omega
  have hww := without_wrap d j
  have hobt : ob = true := by rw [← HOB.out, hww]; rfl
  have hzj : Z = wrapN d j := by rw [← HZ.out, hww]; rfl
  subst hobt hzj
  have hwj := bracks_wrap d j
  have hcj := wrap_count d j
  rw [HBD.out] at hwj
  obtain ⟨X, hX⟩ : ∃ X, (bracksN (wrapN d j)).length = X := ⟨_, rfl⟩
  have HXL := hide hX
  have HCJ := hide (show (wrapN d j).count ≤ 900000 by omega)
  rw [hX] at hwj
  have HWJ := hide hwj
  clear hww hX hwj
  refine tC 21 hSn ?_
  refine tC 22 hSn ?_
  refine tC 23 hSn ?_
  refine tC 24 hSn ?_
  refine tC 25 hSn ?_
  refine tC 28 hSn ?_
  clear hSn
  refine rY 26 fun K hK => ?_
  go_simp
  refine (brackets_any (w := X6) (HXp.out _ hB6) HCJ.out).mono ?_
  rintro e X7 ⟨xa, xc, rfl, hp, hb7⟩
  rw [HXL.out]
  have HR7 := hide (HR6.out.call hb7)
  have hB7 := hB6.trans (hb7.mono hB6.size)
  clear hp
  clear hb7 HR6 hB6
  go_simp
  refine onK hK (HKS.out _ hB7) ?_
  clear hK K
  have hSn := HKS.out _ hB7
  refine tC 27 hSn ?_
  clear hSn
  refine rY 29 fun K hK => ?_
  go_simp
  refine (brackets_any (w := X7) (HIp.out _ hB7) HCM.out).mono ?_
  rintro e X8 ⟨za, zc, rfl, hp, hb8⟩
  rw [HM.out]
  have HR8 := hide (HR7.out.call hb8)
  have hB8 := hB7.trans (hb8.mono hB7.size)
  clear hp
  clear hb8 HR7 hB7
  go_simp
  refine onK hK (HKS.out _ hB8) ?_
  clear hK K
  have hSn := HKS.out _ hB8
  refine tC 30 hSn ?_
  have hsub : (M : Int) - 1 = (X : Int) := by have := HBW.out; have := HWJ.out; omega
  have hX9 : X ≤ 900100 := by have := HWJ.out; omega
  have hwX : IntKind.i64.wrap (X : Int) = (X : Int) := IntWalk.i64_in _ (by omega)
  refine tC 31 hSn ?_
  refine tC 32 hSn ?_
  refine tC 33 hSn ?_
  refine tC 34 hSn ?_
  refine tC 35 hSn ?_
  refine tC 36 hSn ?_
  clear hsub hwX hX9
  clear hSn
  refine wpAnyH_done (by kernel_rfl) ?_ _
  go_wp2_with fail
  go_ret
  exact ⟨rfl, HR8.out.below⟩
end Go.Proofs.YtacgmmpdichlmaaGreat
