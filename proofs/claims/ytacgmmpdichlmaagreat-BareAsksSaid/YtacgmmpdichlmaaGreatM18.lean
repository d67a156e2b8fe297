/-
  The reference's operand: of an operator. Its condition: the parser's items lie in memory.
-/
import Derived.Test.YtacgmmpdichlmaaGreatM04
namespace Go.Proofs.YtacgmmpdichlmaaGreat
open Go.RowKit
attribute [local go_sem ↓] Go.wp_at_zero Go.wp_at_succ

set_option maxRecDepth 4000 in
set_option maxHeartbeats 4000000 in
theorem operand_k {l : List Tk} {a : Option Addr} {cap m : Nat} (K : Kn l a cap m) (hpost : ∀ ⦃i : Nat⦄ ⦃bad : Bool⦄ ⦃w : World⦄, Its w a l → i ≤ l.length → leftP l.length i bad ≤ m → Calls Tryz.prog 108 #[.agg #[.slice a l.length cap, .int .i64 i, .bool bad]] w (PN l a cap w i bad 2)) (hdef : ∀ ⦃i : Nat⦄ ⦃w : World⦄ (top : Bool), Its w a l → i < l.length → leftP l.length i false ≤ m → Calls Tryz.prog 71 #[.agg #[.slice a l.length cap, .int .i64 i, .bool false], .bool top] w (PN l a cap w i false 2)) {i : Nat} {bad : Bool} {w : World} (hi : Its w a l) (hat : i ≤ l.length) (hm : leftP l.length i bad ≤ m) : Calls Tryz.prog 101 #[.agg #[.slice a l.length cap, .int .i64 i, .bool bad]] w (PN l a cap w i bad 2) := by
  have HK := hide K
  have hlen := hi.2.1
  clear K
  have Hpost := hide hpost
  clear hpost
  have Hdef := hide hdef
  clear hdef
  go_enter Tryz.func101, Tryz.ntmps101
  go_wp2_with fail
  refine named fun W1 hW1 => ?_
  have HS1 := onS hW1 (St.nil w).va.va.va
  clear hW1
  refine (op_any ⟨#[45]⟩ (hi.below HS1.out.below)).mono ?_
  rintro e w2 ⟨rfl, hb2⟩
  have HS2 := hide (HS1.out.call hb2)
  clear hb2 HS1
  have p0 := rD HS2
  cases hq3 : opB (tokAt l i bad) ⟨#[45]⟩
  case true =>
   obtain ⟨rfl, hlt4⟩ := opB_in hq3
   clear hq3
   go_wp2_with fail
   refine (next_in (n := l.length) ⟨_, _, _, rfl⟩ (by omega) hlen).mono ?_
   rintro e w6 ⟨⟨j5, rfl, hj5, hl5, hp5⟩, hb6⟩
   have HS6 := hide (HS2.out.call hb6)
   clear hb6 HS2
   clear p0
   have p0 := rD HS6
   go_wp2_with fail
   refine (HK.out.exp 9 (hi.below HS6.out.below) (by omega) (by omega)).mono ?_
   rintro e w7 ⟨⟨i7, bad7, d7, k7, s7, y7, m7, c7, rfl, hn7, ⟨hi7, hl7, hp7⟩, hc7⟩, hb7⟩
   have HS7 := hide (HS6.out.call hb7)
   have HNn7 := hide (show Nx w w7 [w.heap.size, w.heap.size + 1, w.heap.size + 1 + 1] _ _ from Nx.made hn7 HS6.out)
   clear hn7 hb7 HS6
   clear p0
   have p0 := rD HS7
   go_wp2_with fail
   have lv8 := lV HS7
   refine namedWp fun W8 hW8 => ?_
   have HS8 := onS hW8 HS7.out.va.va
   have HNn8 := hide (Nx.onto hW8 ((HNn7.out.var (g := w7.heap.size) (by simp) _).var (g := w7.heap.size + 1) (by simp) _))
   clear HNn7
   clear hW8 HS7
   clear p0
   refine rgn HS8.out [3, 4] fun W9 hW9 => ?_
   have HS9 := hide (St.onto hW9 HS8.out.dr)
   have HNn9 := hide (Nx.onto hW9 HNn8.out.dr)
   clear HNn8
   clear hW9 HS8
   refine tK 0 (kS HS9.out [3, 4]) ?_
   refine tK 1 (kS HS9.out [3, 4]) ?_
   refine rY2 2 4 (fun K hK => ?_) (fun K hK => ?_)
   ·
    go_simp
    refine onW hK (kS (HS9.out.al _) [3, 4]) fun W10 hW10 => ?_
    clear hK K
    have HS10 := hide (St.onto hW10 (HS9.out.al _))
    have HNn10 := hide (Nx.onto hW10 (HNn9.out.al _))
    have HNres10 := hide (show Nx w W10 [w.heap.size, w.heap.size + 1, w.heap.size + 1 + 1, w7.heap.size, w7.heap.size + 1] (Nd.of 25 ⟨#[]⟩ [d7]) (.agg #[.int .i64 25, .string ⟨#[]⟩, .slice (some ⟨W9.heap.size, 0, none⟩) 1 1]) from hW10 ▸ (Sx.join (Rx.lit (Rx.cons HNn9.out (Rx.nil)) HS9.out rfl (by simp [maxLen])) (by omega) (by decide)))
    clear HNn9
    clear hW10 HS9
    refine tK 3 (kS HS10.out [3, 4]) ?_
    refine rY 4 fun K hK => ?_
    have p1 := rG HS10 1
    go_simp
    refine onW hK (kS (HS10.out.st3 1 rfl _ _ _) [3, 4]) fun W11 hW11 => ?_
    clear hK K
    have HS11 := onS hW11 (HS10.out.st3 1 rfl _ _ _)
    have HNn11 := hide (Nx.onto hW11 (HNn10.out.st3 (by simp) _ _ _))
    have HNres11 := hide (Nx.onto hW11 (HNres10.out.st3 (by simp) _ _ _))
    clear HNn10 HNres10
    clear hW11 HS10
    clear p1
    refine rY 5 fun K hK => ?_
    have p2 := rG HS11 2
    go_simp
    refine onW hK (kS (HS11.out.st3 2 rfl _ _ _) [3, 4]) fun W12 hW12 => ?_
    clear hK K
    have HS12 := onS hW12 (HS11.out.st3 2 rfl _ _ _)
    have HNn12 := hide (Nx.onto hW12 (HNn11.out.st3 (by simp) _ _ _))
    have HNres12 := hide (Nx.onto hW12 (HNres11.out.st3 (by simp) _ _ _))
    clear HNn11 HNres11
    clear hW12 HS11
    clear p2
    refine wpAnyH_done (by kernel_rfl) ?_ _
    go_wp2_with fail
    refine namedPost fun W13 hW13 => ?_
    have HS13 := hide (St.onto hW13 HS12.out)
    have HNn13 := hide (Nx.onto hW13 HNn12.out)
    have HNres13 := hide (Nx.onto hW13 HNres12.out)
    clear HNn12 HNres12
    clear hW13 HS12
    exact ended_pn rfl rfl rfl (HS13.out.get 1 rfl) (HS13.out.get 2 rfl) ⟨⟨_, _, _, _, _, _, _, _, rfl, HNres13.out.out, ⟨by omega, by omega, by omega⟩, by rw [cnt1]; omega⟩, HS13.out.below⟩
   have p1 := rG HS9 1
   go_simp
   refine onW hK (kS (HS9.out.st3 1 rfl _ _ _) [3, 4]) fun W14 hW14 => ?_
   clear hK K
   have HS14 := onS hW14 (HS9.out.st3 1 rfl _ _ _)
   have HNn14 := hide (Nx.onto hW14 (HNn9.out.st3 (by simp) _ _ _))
   clear HNn9
   clear hW14 HS9
   clear p1
   refine rY 2 fun K hK => ?_
   go_simp
   refine onW hK (kS (HS14.out.al _) [3, 4]) fun W15 hW15 => ?_
   clear hK K
   have HS15 := hide (St.onto hW15 (HS14.out.al _))
   have HNn15 := hide (Nx.onto hW15 (HNn14.out.al _))
   have HNres15 := hide (show Nx w W15 [w.heap.size, w.heap.size + 1, w.heap.size + 1 + 1, w7.heap.size, w7.heap.size + 1] (Nd.of 25 ⟨#[]⟩ [d7]) (.agg #[.int .i64 25, .string ⟨#[]⟩, .slice (some ⟨W14.heap.size, 0, none⟩) 1 1]) from hW15 ▸ (Sx.join (Rx.lit (Rx.cons HNn14.out (Rx.nil)) HS14.out rfl (by simp [maxLen])) (by omega) (by decide)))
   clear HNn14
   clear hW15 HS14
   refine tK 3 (kS HS15.out [3, 4]) ?_
   refine rY 5 fun K hK => ?_
   have p2 := rG HS15 2
   go_simp
   refine onW hK (kS (HS15.out.st3 2 rfl _ _ _) [3, 4]) fun W16 hW16 => ?_
   clear hK K
   have HS16 := onS hW16 (HS15.out.st3 2 rfl _ _ _)
   have HNn16 := hide (Nx.onto hW16 (HNn15.out.st3 (by simp) _ _ _))
   have HNres16 := hide (Nx.onto hW16 (HNres15.out.st3 (by simp) _ _ _))
   clear HNn15 HNres15
   clear hW16 HS15
   clear p2
   refine wpAnyH_done (by kernel_rfl) ?_ _
   go_wp2_with fail
   refine namedPost fun W17 hW17 => ?_
   have HS17 := hide (St.onto hW17 HS16.out)
   have HNn17 := hide (Nx.onto hW17 HNn16.out)
   have HNres17 := hide (Nx.onto hW17 HNres16.out)
   clear HNn16 HNres16
   clear hW17 HS16
   exact ended_pn rfl rfl rfl (HS17.out.get 1 rfl) (HS17.out.get 2 rfl) ⟨⟨_, _, _, _, _, _, _, _, rfl, HNres17.out.out, ⟨by omega, by omega, by omega⟩, by rw [cnt1]; omega⟩, HS17.out.below⟩
  clear hq3
  go_wp2_with fail
  refine (isWord_any ⟨#[100, 101, 102]⟩ (hi.below HS2.out.below)).mono ?_
  rintro e w18 ⟨rfl, hb18⟩
  have HS18 := hide (HS2.out.call hb18)
  clear hb18 HS2
  clear p0
  have p0 := rD HS18
  cases hq19 : wordB (tokAt l i bad) ⟨#[100, 101, 102]⟩
  case true =>
   obtain ⟨rfl, hlt20⟩ := wordB_in hq19
   clear hq19
   go_wp2_with fail
   refine (Hdef.out false (hi.below HS18.out.below) (by omega) (by omega)).mono ?_
   rintro e w21 ⟨⟨i21, bad21, d21, k21, s21, y21, m21, c21, rfl, hn21, ⟨hi21, hl21, hp21⟩, hc21⟩, hb21⟩
   have HS21 := hide (HS18.out.call hb21)
   have HNn21 := hide (show Nx w w21 [w.heap.size, w.heap.size + 1, w.heap.size + 1 + 1] _ _ from Nx.made hn21 HS18.out)
   clear hn21 hb21 HS18
   clear p0
   have p0 := rD HS21
   go_wp2_with fail
   have lv22 := lV HS21
   refine namedWp fun W22 hW22 => ?_
   have HS22 := onS hW22 HS21.out.va.va
   have HNn22 := hide (Nx.onto hW22 ((HNn21.out.var (g := w21.heap.size) (by simp) _).var (g := w21.heap.size + 1) (by simp) _))
   clear HNn21
   clear hW22 HS21
   clear p0
   refine rgn HS22.out [3, 4] fun W23 hW23 => ?_
   have HS23 := hide (St.onto hW23 HS22.out.dr)
   have HNn23 := hide (Nx.onto hW23 HNn22.out.dr)
   clear HNn22
   clear hW23 HS22
   refine tK 0 (kS HS23.out [3, 4]) ?_
   refine tK 1 (kS HS23.out [3, 4]) ?_
   refine rY 2 fun K hK => ?_
   have p1 := rG HS23 1
   go_simp
   refine onW hK (kS (HS23.out.st3 1 rfl _ _ _) [3, 4]) fun W24 hW24 => ?_
   clear hK K
   have HS24 := onS hW24 (HS23.out.st3 1 rfl _ _ _)
   have HNn24 := hide (Nx.onto hW24 (HNn23.out.st3 (by simp) _ _ _))
   clear HNn23
   clear hW24 HS23
   clear p1
   refine rY 3 fun K hK => ?_
   have p2 := rG HS24 2
   go_simp
   refine onW hK (kS (HS24.out.st3 2 rfl _ _ _) [3, 4]) fun W25 hW25 => ?_
   clear hK K
   have HS25 := onS hW25 (HS24.out.st3 2 rfl _ _ _)
   have HNn25 := hide (Nx.onto hW25 (HNn24.out.st3 (by simp) _ _ _))
   clear HNn24
   clear hW25 HS24
   clear p2
   refine wpAnyH_done (by kernel_rfl) ?_ _
   go_wp2_with fail
   refine namedPost fun W26 hW26 => ?_
   have HS26 := hide (St.onto hW26 HS25.out)
   have HNn26 := hide (Nx.onto hW26 HNn25.out)
   clear HNn25
   clear hW26 HS25
   exact ended_pn rfl rfl rfl (HS26.out.get 1 rfl) (HS26.out.get 2 rfl) ⟨⟨_, _, _, _, _, _, _, _, rfl, HNn26.out.out, ⟨by omega, by omega, by omega⟩, by omega⟩, HS26.out.below⟩
  clear hq19
  go_wp2_with fail
  refine (isWord_any ⟨#[108, 97, 98, 101, 108]⟩ (hi.below HS18.out.below)).mono ?_
  rintro e w27 ⟨rfl, hb27⟩
  have HS27 := hide (HS18.out.call hb27)
  clear hb27 HS18
  clear p0
  have p0 := rD HS27
  cases hq28 : wordB (tokAt l i bad) ⟨#[108, 97, 98, 101, 108]⟩
  case true =>
   obtain ⟨rfl, hlt29⟩ := wordB_in hq28
   clear hq28
   go_wp2_with fail
   refine (next_in (n := l.length) ⟨_, _, _, rfl⟩ (by omega) hlen).mono ?_
   rintro e w31 ⟨⟨j30, rfl, hj30, hl30, hp30⟩, hb31⟩
   have HS31 := hide (HS27.out.call hb31)
   clear hb31 HS27
   clear p0
   have p0 := rD HS31
   go_wp2_with fail
   refine (kind_any 5 1 (hi.below HS31.out.below) (by omega) (by decide) (fun h => (tokAt_ok hi.2.2 _ _).2.2 (by omega))).mono ?_
   rintro e w33 ⟨⟨i32, bad32, s32, rfl, hz32, hr32, hkk32⟩, hb33⟩
   have HS33 := hide (HS31.out.call hb33)
   clear hb33 HS31
   clear p0
   obtain ⟨hi32, hl32, hp32, hj32⟩ := hr32.out (by omega)
   have hq32 := hr32.less (by omega)
   clear hr32 hkk32
   have p0 := rD HS33
   go_wp2_with fail
   have lv34 := lV HS33
   refine named fun W34 hW34 => ?_
   have HS34 := onS hW34 HS33.out.va
   clear hW34 HS33
   clear p0
   refine (need_any ⟨#[124]⟩ (hi.below HS34.out.below) (by omega)).mono ?_
   rintro e w36 ⟨⟨i35, bad35, rfl, hr35⟩, hb36⟩
   have HS36 := hide (HS34.out.call hb36)
   clear hb36 HS34
   obtain ⟨hi35, hl35, hp35, hj35⟩ := hr35.out (by omega)
   clear hr35
   have p0 := rD HS36
   go_wp2_with fail
   refine (HK.out.pipe (hi.below HS36.out.below) (by omega) (by omega)).mono ?_
   rintro e w37 ⟨⟨i37, bad37, d37, k37, s37, y37, m37, c37, rfl, hn37, ⟨hi37, hl37, hp37⟩, hc37⟩, hb37⟩
   have HS37 := hide (HS36.out.call hb37)
   have HNn37 := hide (show Nx w w37 [w.heap.size, w.heap.size + 1, w.heap.size + 1 + 1, w33.heap.size] _ _ from Nx.made hn37 HS36.out)
   clear hn37 hb37 HS36
   clear p0
   have p0 := rD HS37
   go_wp2_with fail
   have lv38 := lV HS37
   refine namedWp fun W38 hW38 => ?_
   have HS38 := onS hW38 HS37.out.va.va
   have HNn38 := hide (Nx.onto hW38 ((HNn37.out.var (g := w37.heap.size) (by simp) _).var (g := w37.heap.size + 1) (by simp) _))
   clear HNn37
   clear hW38 HS37
   clear p0
   refine namedWp fun W39 hW39 => ?_
   have HS39 := hide (St.onto hW39 HS38.out)
   have HNn39 := hide (Nx.onto hW39 HNn38.out)
   clear HNn38
   clear hW39 HS38
   refine rgn HS39.out [4, 5] fun W40 hW40 => ?_
   have HS40 := hide (St.onto hW40 HS39.out.dr)
   have HNn40 := hide (Nx.onto hW40 HNn39.out.dr)
   clear HNn39
   clear hW40 HS39
   refine tK 0 (kS HS40.out [4, 5]) ?_
   refine tK 1 (kS HS40.out [4, 5]) ?_
   refine tK 2 (kS HS40.out [4, 5]) ?_
   refine rY2 3 5 (fun K hK => ?_) (fun K hK => ?_)
   ·
    go_simp
    refine onW hK (kS (HS40.out.al _) [4, 5]) fun W41 hW41 => ?_
    clear hK K
    have HS41 := hide (St.onto hW41 (HS40.out.al _))
    have HNn41 := hide (Nx.onto hW41 (HNn40.out.al _))
    have HNres41 := hide (show Nx w W41 [w.heap.size, w.heap.size + 1, w.heap.size + 1 + 1, w33.heap.size, w37.heap.size, w37.heap.size + 1] (Nd.of 27 s32 [d37]) (.agg #[.int .i64 27, .string s32, .slice (some ⟨W40.heap.size, 0, none⟩) 1 1]) from hW41 ▸ (Sx.join (Rx.lit (Rx.cons HNn40.out (Rx.nil)) HS40.out rfl (by simp [maxLen])) (by omega) (by simp only [maxLen]; omega)))
    clear HNn40
    clear hW41 HS40
    refine tK 4 (kS HS41.out [4, 5]) ?_
    refine rY 5 fun K hK => ?_
    have p1 := rG HS41 1
    go_simp
    refine onW hK (kS (HS41.out.st3 1 rfl _ _ _) [4, 5]) fun W42 hW42 => ?_
    clear hK K
    have HS42 := onS hW42 (HS41.out.st3 1 rfl _ _ _)
    have HNn42 := hide (Nx.onto hW42 (HNn41.out.st3 (by simp) _ _ _))
    have HNres42 := hide (Nx.onto hW42 (HNres41.out.st3 (by simp) _ _ _))
    clear HNn41 HNres41
    clear hW42 HS41
    clear p1
    refine rY 6 fun K hK => ?_
    have p2 := rG HS42 2
    go_simp
    refine onW hK (kS (HS42.out.st3 2 rfl _ _ _) [4, 5]) fun W43 hW43 => ?_
    clear hK K
    have HS43 := onS hW43 (HS42.out.st3 2 rfl _ _ _)
    have HNn43 := hide (Nx.onto hW43 (HNn42.out.st3 (by simp) _ _ _))
    have HNres43 := hide (Nx.onto hW43 (HNres42.out.st3 (by simp) _ _ _))
    clear HNn42 HNres42
    clear hW43 HS42
    clear p2
    refine wpAnyH_done (by kernel_rfl) ?_ _
    go_wp2_with fail
    refine namedPost fun W44 hW44 => ?_
    have HS44 := hide (St.onto hW44 HS43.out)
    have HNn44 := hide (Nx.onto hW44 HNn43.out)
    have HNres44 := hide (Nx.onto hW44 HNres43.out)
    clear HNn43 HNres43
    clear hW44 HS43
    exact ended_pn rfl rfl rfl (HS44.out.get 1 rfl) (HS44.out.get 2 rfl) ⟨⟨_, _, _, _, _, _, _, _, rfl, HNres44.out.out, ⟨by omega, by omega, by omega⟩, by rw [cnt1]; omega⟩, HS44.out.below⟩
   have p1 := rG HS40 1
   go_simp
   refine onW hK (kS (HS40.out.st3 1 rfl _ _ _) [4, 5]) fun W45 hW45 => ?_
   clear hK K
   have HS45 := onS hW45 (HS40.out.st3 1 rfl _ _ _)
   have HNn45 := hide (Nx.onto hW45 (HNn40.out.st3 (by simp) _ _ _))
   clear HNn40
   clear hW45 HS40
   clear p1
   refine rY 3 fun K hK => ?_
   go_simp
   refine onW hK (kS (HS45.out.al _) [4, 5]) fun W46 hW46 => ?_
   clear hK K
   have HS46 := hide (St.onto hW46 (HS45.out.al _))
   have HNn46 := hide (Nx.onto hW46 (HNn45.out.al _))
   have HNres46 := hide (show Nx w W46 [w.heap.size, w.heap.size + 1, w.heap.size + 1 + 1, w33.heap.size, w37.heap.size, w37.heap.size + 1] (Nd.of 27 s32 [d37]) (.agg #[.int .i64 27, .string s32, .slice (some ⟨W45.heap.size, 0, none⟩) 1 1]) from hW46 ▸ (Sx.join (Rx.lit (Rx.cons HNn45.out (Rx.nil)) HS45.out rfl (by simp [maxLen])) (by omega) (by simp only [maxLen]; omega)))
   clear HNn45
   clear hW46 HS45
   refine tK 4 (kS HS46.out [4, 5]) ?_
   refine rY 6 fun K hK => ?_
   have p2 := rG HS46 2
   go_simp
   refine onW hK (kS (HS46.out.st3 2 rfl _ _ _) [4, 5]) fun W47 hW47 => ?_
   clear hK K
   have HS47 := onS hW47 (HS46.out.st3 2 rfl _ _ _)
   have HNn47 := hide (Nx.onto hW47 (HNn46.out.st3 (by simp) _ _ _))
   have HNres47 := hide (Nx.onto hW47 (HNres46.out.st3 (by simp) _ _ _))
   clear HNn46 HNres46
   clear hW47 HS46
   clear p2
   refine wpAnyH_done (by kernel_rfl) ?_ _
   go_wp2_with fail
   refine namedPost fun W48 hW48 => ?_
   have HS48 := hide (St.onto hW48 HS47.out)
   have HNn48 := hide (Nx.onto hW48 HNn47.out)
   have HNres48 := hide (Nx.onto hW48 HNres47.out)
   clear HNn47 HNres47
   clear hW48 HS47
   exact ended_pn rfl rfl rfl (HS48.out.get 1 rfl) (HS48.out.get 2 rfl) ⟨⟨_, _, _, _, _, _, _, _, rfl, HNres48.out.out, ⟨by omega, by omega, by omega⟩, by rw [cnt1]; omega⟩, HS48.out.below⟩
  clear hq28
  go_wp2_with fail
  refine (isWord_any ⟨#[116, 114, 121]⟩ (hi.below HS27.out.below)).mono ?_
  rintro e w49 ⟨rfl, hb49⟩
  have HS49 := hide (HS27.out.call hb49)
  clear hb49 HS27
  clear p0
  have p0 := rD HS49
  cases hq50 : wordB (tokAt l i bad) ⟨#[116, 114, 121]⟩
  case true =>
   obtain ⟨rfl, hlt51⟩ := wordB_in hq50
   clear hq50
   go_wp2_with fail
   refine (next_in (n := l.length) ⟨_, _, _, rfl⟩ (by omega) hlen).mono ?_
   rintro e w53 ⟨⟨j52, rfl, hj52, hl52, hp52⟩, hb53⟩
   have HS53 := hide (HS49.out.call hb53)
   clear hb53 HS49
   clear p0
   have p0 := rD HS53
   go_wp2_with fail
   refine (HK.out.post (hi.below HS53.out.below) (by omega) (by omega)).mono ?_
   rintro e w54 ⟨⟨i54, bad54, d54, k54, s54, y54, m54, c54, rfl, hn54, ⟨hi54, hl54, hp54⟩, hc54⟩, hb54⟩
   have HS54 := hide (HS53.out.call hb54)
   have HNn54 := hide (show Nx w w54 [w.heap.size, w.heap.size + 1, w.heap.size + 1 + 1] _ _ from Nx.made hn54 HS53.out)
   clear hn54 hb54 HS53
   clear p0
   have p0 := rD HS54
   go_wp2_with (refine stopAt 72 ?_)
   have lv55 := lV HS54
   refine namedStop fun W55 hW55 => ?_
   have HS55 := onS hW55 HS54.out.va.va
   have HNn55 := hide (Nx.onto hW55 ((HNn54.out.var (g := w54.heap.size) (by simp) _).var (g := w54.heap.size + 1) (by simp) _))
   clear HNn54
   clear hW55 HS54
   clear p0
   have p0 := rD HS55
   go_wp2_with fail
   refine named fun W56 hW56 => ?_
   have HS56 := hide (St.onto hW56 (HS55.out.al _))
   have HRl56 := hide (show Px w W56 [w.heap.size, w.heap.size + 1, w.heap.size + 1 + 1, w54.heap.size, w54.heap.size + 1] (.slice (some ⟨W55.heap.size, 0, none⟩) 1 1) [d54] [] [] from hW56 ▸ (Hx.lit (Rx.cons HNn55.out (Rx.nil)) HS55.out rfl (by simp)))
   clear HNn55
   clear hW56 HS55
   clear p0
   refine (isWord_any ⟨#[99, 97, 116, 99, 104]⟩ (hi.below HS56.out.below)).mono ?_
   rintro e w57 ⟨rfl, hb57⟩
   have HS57 := hide (HS56.out.call hb57)
   have HRl57 := hide (HRl56.out.call hb57)
   clear HRl56
   clear hb57 HS56
   have p0 := rD HS57
   cases hq58 : wordB (tokAt l i54 bad54) ⟨#[99, 97, 116, 99, 104]⟩
   case false =>
    clear hq58
    go_wp2_with fail
    refine namedPost fun W59 hW59 => ?_
    have HS59 := onS hW59 ((HS57.out.st3 1 rfl _ _ _).st3 2 rfl _ _ _)
    have HRl59 := hide (Px.onto hW59 ((HRl57.out.st3 (by simp) _ _ _).st3 (by simp) _ _ _))
    clear HRl57
    clear hW59 HS57
    clear p0
    exact ended_pn rfl rfl rfl (HS59.out.get 1 rfl) (HS59.out.get 2 rfl) ⟨⟨_, _, _, _, _, _, _, _, rfl, (Px.node HRl59.out (by omega) (by decide)).out, ⟨by omega, by omega, by omega⟩, by simp only [cntOf, cntL_one]; omega⟩, HS59.out.below⟩
   obtain ⟨rfl, hlt60⟩ := wordB_in hq58
   clear hq58
   go_wp2_with fail
   refine (next_in (n := l.length) ⟨_, _, _, rfl⟩ (by omega) hlen).mono ?_
   rintro e w62 ⟨⟨j61, rfl, hj61, hl61, hp61⟩, hb62⟩
   have HS62 := hide (HS57.out.call hb62)
   have HRl62 := hide (HRl57.out.call hb62)
   clear HRl57
   clear hb62 HS57
   clear p0
   have p0 := rD HS62
   go_wp2_with fail
   refine (HK.out.post (hi.below HS62.out.below) (by omega) (by omega)).mono ?_
   rintro e w63 ⟨⟨i63, bad63, d63, k63, s63, y63, m63, c63, rfl, hn63, ⟨hi63, hl63, hp63⟩, hc63⟩, hb63⟩
   have HS63 := hide (HS62.out.call hb63)
   have HRl63 := hide (Px.made HRl62.out hn63 hb63 HS62.out rfl)
   clear HRl62
   have HNk63 := hide (show Nx w w63 [w.heap.size, w.heap.size + 1, w.heap.size + 1 + 1, w54.heap.size, w54.heap.size + 1] _ _ from Nx.made hn63 HS62.out)
   clear hn63 hb63 HS62
   clear p0
   have p0 := rD HS63
   go_wp2_with (refine stopAt 83 ?_)
   have lv64 := lV HS63
   refine namedStop fun W64 hW64 => ?_
   have HS64 := onS hW64 (HS63.out.st3 3 rfl _ _ _).va.va
   have HNk64 := hide (Nx.onto hW64 (((HNk63.out.st3 (by simp) _ _ _).var (g := w63.heap.size) (by simp) _).var (g := w63.heap.size + 1) (by simp) _))
   have HRl64 := hide (Px.onto hW64 (((HRl63.out.st3 (by simp) _ _ _).var (g := w63.heap.size) (by simp) _).var (g := w63.heap.size + 1) (by simp) _))
   clear HNk63 HRl63
   clear hW64 HS63
   clear p0
   have p0 := rD HS64
   have lv65 := lV HS64
   have hSt65 : St w W64 [pe w.heap.size a l cap i false, pz (w.heap.size + 1), nz (w.heap.size + 1 + 1), pe w54.heap.size a l cap i63 bad63, ne (w54.heap.size + 1) k54 s54 y54 m54 c54, pe w63.heap.size a l cap i63 bad63, ne (w63.heap.size + 1) k63 s63 y63 m63 c63] := HS64.out
   have hPx65 : Px w W64 [w.heap.size, w.heap.size + 1, w.heap.size + 1 + 1, w54.heap.size, w54.heap.size + 1, w63.heap.size, w63.heap.size + 1] (.slice (some ⟨W55.heap.size, 0, none⟩) 1 1) [d54] [d63] [.int .i64 k63, .string s63, .slice y63 m63 c63] := HRl64.out
   obtain ⟨v65, w65, hr65, hH65, hS65⟩ := hPx65.snoc hSt65 rfl (by simp only [List.length_cons, List.length_nil]; omega) (by simp)
   simp only [List.length_cons, List.length_nil, Nat.zero_add] at hr65
   obtain ⟨y65, n65, c65, rfl⟩ := hH65.form'
   clear hSt65 hPx65 HS64 HRl64 HNk64
   have HS65 := hide hS65
   have HRl65 := hide hH65
   clear hS65 hH65
   have rr0 := rD HS65
   go_wp2_with (at_builtin; refine wpList_append_run rfl _ _ (by rfl) (by rfl) (by rfl) (by rfl) hr65 ?_)
   clear hr65 p0
   refine namedPost fun W66 hW66 => ?_
   have HS66 := onS hW66 ((HS65.out.st3 1 rfl _ _ _).st3 2 rfl _ _ _)
   have HRl66 := hide (Px.onto hW66 ((HRl65.out.st3 (by simp) _ _ _).st3 (by simp) _ _ _))
   clear HRl65
   clear hW66 HS65
   clear rr0
   exact ended_pn rfl rfl rfl (HS66.out.get 1 rfl) (HS66.out.get 2 rfl) ⟨⟨_, _, _, _, _, _, _, _, rfl, (Px.node HRl66.out (by omega) (by decide)).out, ⟨by omega, by omega, by omega⟩, by simp only [cntOf, cntL_app, cntL_one]; omega⟩, HS66.out.below⟩
  clear hq50
  go_wp2_with fail
  refine (Hpost.out (hi.below HS49.out.below) (by omega) (by omega)).mono ?_
  rintro e w67 ⟨⟨i67, bad67, d67, k67, s67, y67, m67, c67, rfl, hn67, ⟨hi67, hl67, hp67⟩, hc67⟩, hb67⟩
  have HS67 := hide (HS49.out.call hb67)
  have HNn67 := hide (show Nx w w67 [w.heap.size, w.heap.size + 1, w.heap.size + 1 + 1] _ _ from Nx.made hn67 HS49.out)
  clear hn67 hb67 HS49
  clear p0
  have p0 := rD HS67
  go_wp2_with fail
  have lv68 := lV HS67
  refine named fun W68 hW68 => ?_
  have HS68 := onS hW68 HS67.out.va.va
  have HNn68 := hide (Nx.onto hW68 ((HNn67.out.var (g := w67.heap.size) (by simp) _).var (g := w67.heap.size + 1) (by simp) _))
  clear HNn67
  clear hW68 HS67
  clear p0
  refine (isWord_any ⟨#[97, 115]⟩ (hi.below HS68.out.below)).mono ?_
  rintro e w69 ⟨rfl, hb69⟩
  have HS69 := hide (HS68.out.call hb69)
  have HNn69 := hide (HNn68.out.call hb69)
  clear HNn68
  clear hb69 HS68
  have p0 := rD HS69
  cases hq70 : wordB (tokAt l i67 bad67) ⟨#[97, 115]⟩
  case false =>
   clear hq70
   go_wp2_with fail
   refine namedWp fun W71 hW71 => ?_
   have HS71 := hide (St.onto hW71 HS69.out)
   have HNn71 := hide (Nx.onto hW71 HNn69.out)
   clear HNn69
   clear hW71 HS69
   clear p0
   refine rgn HS71.out [3, 4] fun W72 hW72 => ?_
   have HS72 := hide (St.onto hW72 HS71.out.dr)
   have HNn72 := hide (Nx.onto hW72 HNn71.out.dr)
   clear HNn71
   clear hW72 HS71
   refine tK 0 (kS HS72.out [3, 4]) ?_
   refine tK 1 (kS HS72.out [3, 4]) ?_
   refine rY 2 fun K hK => ?_
   have p1 := rG HS72 1
   go_simp
   refine onW hK (kS (HS72.out.st3 1 rfl _ _ _) [3, 4]) fun W73 hW73 => ?_
   clear hK K
   have HS73 := onS hW73 (HS72.out.st3 1 rfl _ _ _)
   have HNn73 := hide (Nx.onto hW73 (HNn72.out.st3 (by simp) _ _ _))
   clear HNn72
   clear hW73 HS72
   clear p1
   refine rY 3 fun K hK => ?_
   have p2 := rG HS73 2
   go_simp
   refine onW hK (kS (HS73.out.st3 2 rfl _ _ _) [3, 4]) fun W74 hW74 => ?_
   clear hK K
   have HS74 := onS hW74 (HS73.out.st3 2 rfl _ _ _)
   have HNn74 := hide (Nx.onto hW74 (HNn73.out.st3 (by simp) _ _ _))
   clear HNn73
   clear hW74 HS73
   clear p2
   refine wpAnyH_done (by kernel_rfl) ?_ _
   go_wp2_with fail
   refine namedPost fun W75 hW75 => ?_
   have HS75 := hide (St.onto hW75 HS74.out)
   have HNn75 := hide (Nx.onto hW75 HNn74.out)
   clear HNn74
   clear hW75 HS74
   exact ended_pn rfl rfl rfl (HS75.out.get 1 rfl) (HS75.out.get 2 rfl) ⟨⟨_, _, _, _, _, _, _, _, rfl, HNn75.out.out, ⟨by omega, by omega, by omega⟩, by omega⟩, HS75.out.below⟩
  obtain ⟨rfl, hlt76⟩ := wordB_in hq70
  clear hq70
  go_wp2_with fail
  refine (next_in (n := l.length) ⟨_, _, _, rfl⟩ (by omega) hlen).mono ?_
  rintro e w78 ⟨⟨j77, rfl, hj77, hl77, hp77⟩, hb78⟩
  have HS78 := hide (HS69.out.call hb78)
  have HNn78 := hide (HNn69.out.call hb78)
  clear HNn69
  clear hb78 HS69
  clear p0
  have p0 := rD HS78
  go_wp2_with fail
  refine (HK.out.pattern (hi.below HS78.out.below) (by omega) (by omega)).mono ?_
  rintro e w79 ⟨⟨i79, bad79, d79, k79, s79, y79, m79, c79, rfl, hn79, ⟨hi79, hl79, hp79⟩, hc79⟩, hb79⟩
  have HS79 := hide (HS78.out.call hb79)
  have HNn79 := hide (HNn78.out.call hb79)
  clear HNn78
  have HNk79 := hide (show Nx w w79 [w.heap.size, w.heap.size + 1, w.heap.size + 1 + 1, w67.heap.size, w67.heap.size + 1] _ _ from Nx.made hn79 HS78.out)
  clear hn79 hb79 HS78
  clear p0
  have p0 := rD HS79
  go_wp2_with fail
  have lv80 := lV HS79
  refine named fun W80 hW80 => ?_
  have HS80 := onS hW80 HS79.out.va.va
  have HNn80 := hide (Nx.onto hW80 ((HNn79.out.var (g := w79.heap.size) (by simp) _).var (g := w79.heap.size + 1) (by simp) _))
  have HNk80 := hide (Nx.onto hW80 ((HNk79.out.var (g := w79.heap.size) (by simp) _).var (g := w79.heap.size + 1) (by simp) _))
  clear HNn79 HNk79
  clear hW80 HS79
  clear p0
  refine (need_any ⟨#[124]⟩ (hi.below HS80.out.below) (by omega)).mono ?_
  rintro e w82 ⟨⟨i81, bad81, rfl, hr81⟩, hb82⟩
  have HS82 := hide (HS80.out.call hb82)
  have HNn82 := hide (HNn80.out.call hb82)
  clear HNn80
  have HNk82 := hide (HNk80.out.call hb82)
  clear HNk80
  clear hb82 HS80
  obtain ⟨hi81, hl81, hp81, hj81⟩ := hr81.out (by omega)
  clear hr81
  have p0 := rD HS82
  go_wp2_with fail
  refine (HK.out.pipe (hi.below HS82.out.below) (by omega) (by omega)).mono ?_
  rintro e w83 ⟨⟨i83, bad83, d83, k83, s83, y83, m83, c83, rfl, hn83, ⟨hi83, hl83, hp83⟩, hc83⟩, hb83⟩
  have HS83 := hide (HS82.out.call hb83)
  have HNn83 := hide (HNn82.out.call hb83)
  clear HNn82
  have HNk83 := hide (HNk82.out.call hb83)
  clear HNk82
  have HNx83 := hide (show Nx w w83 [w.heap.size, w.heap.size + 1, w.heap.size + 1 + 1, w67.heap.size, w67.heap.size + 1, w79.heap.size, w79.heap.size + 1] _ _ from Nx.made hn83 HS82.out)
  clear hn83 hb83 HS82
  clear p0
  have p0 := rD HS83
  go_wp2_with fail
  have lv84 := lV HS83
  refine namedWp fun W84 hW84 => ?_
  have HS84 := onS hW84 HS83.out.va.va
  have HNn84 := hide (Nx.onto hW84 ((HNn83.out.var (g := w83.heap.size) (by simp) _).var (g := w83.heap.size + 1) (by simp) _))
  have HNk84 := hide (Nx.onto hW84 ((HNk83.out.var (g := w83.heap.size) (by simp) _).var (g := w83.heap.size + 1) (by simp) _))
  have HNx84 := hide (Nx.onto hW84 ((HNx83.out.var (g := w83.heap.size) (by simp) _).var (g := w83.heap.size + 1) (by simp) _))
  clear HNn83 HNk83 HNx83
  clear hW84 HS83
  clear p0
  refine rgn HS84.out [7, 4, 6, 8] fun W85 hW85 => ?_
  have HS85 := hide (St.onto hW85 HS84.out.dr)
  have HNn85 := hide (Nx.onto hW85 HNn84.out.dr)
  have HNk85 := hide (Nx.onto hW85 HNk84.out.dr)
  have HNx85 := hide (Nx.onto hW85 HNx84.out.dr)
  clear HNn84 HNk84 HNx84
  clear hW85 HS84
  refine tK 0 (kS HS85.out [7, 4, 6, 8]) ?_
  refine tK 1 (kS HS85.out [7, 4, 6, 8]) ?_
  refine tK 2 (kS HS85.out [7, 4, 6, 8]) ?_
  refine tK 3 (kS HS85.out [7, 4, 6, 8]) ?_
  refine rY2 4 6 (fun K hK => ?_) (fun K hK => ?_)
  ·
   go_simp
   refine onW hK (kS (HS85.out.al _) [7, 4, 6, 8]) fun W86 hW86 => ?_
   clear hK K
   have HS86 := hide (St.onto hW86 (HS85.out.al _))
   have HNn86 := hide (Nx.onto hW86 (HNn85.out.al _))
   have HNk86 := hide (Nx.onto hW86 (HNk85.out.al _))
   have HNx86 := hide (Nx.onto hW86 (HNx85.out.al _))
   have HNres86 := hide (show Nx w W86 [w.heap.size, w.heap.size + 1, w.heap.size + 1 + 1, w67.heap.size, w67.heap.size + 1, w79.heap.size, w79.heap.size + 1, w83.heap.size, w83.heap.size + 1] (Nd.of 26 ⟨#[]⟩ [d67, d79, d83]) (.agg #[.int .i64 26, .string ⟨#[]⟩, .slice (some ⟨W85.heap.size, 0, none⟩) 3 3]) from hW86 ▸ (Sx.join (Rx.lit (Rx.cons HNn85.out (Rx.cons HNk85.out (Rx.cons HNx85.out (Rx.nil)))) HS85.out rfl (by simp [maxLen])) (by omega) (by decide)))
   clear HNn85 HNk85 HNx85
   clear hW86 HS85
   refine tK 5 (kS HS86.out [7, 4, 6, 8]) ?_
   refine rY 6 fun K hK => ?_
   have p1 := rG HS86 1
   go_simp
   refine onW hK (kS (HS86.out.st3 1 rfl _ _ _) [7, 4, 6, 8]) fun W87 hW87 => ?_
   clear hK K
   have HS87 := onS hW87 (HS86.out.st3 1 rfl _ _ _)
   have HNn87 := hide (Nx.onto hW87 (HNn86.out.st3 (by simp) _ _ _))
   have HNk87 := hide (Nx.onto hW87 (HNk86.out.st3 (by simp) _ _ _))
   have HNx87 := hide (Nx.onto hW87 (HNx86.out.st3 (by simp) _ _ _))
   have HNres87 := hide (Nx.onto hW87 (HNres86.out.st3 (by simp) _ _ _))
   clear HNn86 HNk86 HNx86 HNres86
   clear hW87 HS86
   clear p1
   refine rY 7 fun K hK => ?_
   have p2 := rG HS87 2
   go_simp
   refine onW hK (kS (HS87.out.st3 2 rfl _ _ _) [7, 4, 6, 8]) fun W88 hW88 => ?_
   clear hK K
   have HS88 := onS hW88 (HS87.out.st3 2 rfl _ _ _)
   have HNn88 := hide (Nx.onto hW88 (HNn87.out.st3 (by simp) _ _ _))
   have HNk88 := hide (Nx.onto hW88 (HNk87.out.st3 (by simp) _ _ _))
   have HNx88 := hide (Nx.onto hW88 (HNx87.out.st3 (by simp) _ _ _))
   have HNres88 := hide (Nx.onto hW88 (HNres87.out.st3 (by simp) _ _ _))
   clear HNn87 HNk87 HNx87 HNres87
   clear hW88 HS87
   clear p2
   refine wpAnyH_done (by kernel_rfl) ?_ _
   go_wp2_with fail
   refine namedPost fun W89 hW89 => ?_
   have HS89 := hide (St.onto hW89 HS88.out)
   have HNn89 := hide (Nx.onto hW89 HNn88.out)
   have HNk89 := hide (Nx.onto hW89 HNk88.out)
   have HNx89 := hide (Nx.onto hW89 HNx88.out)
   have HNres89 := hide (Nx.onto hW89 HNres88.out)
   clear HNn88 HNk88 HNx88 HNres88
   clear hW89 HS88
   exact ended_pn rfl rfl rfl (HS89.out.get 1 rfl) (HS89.out.get 2 rfl) ⟨⟨_, _, _, _, _, _, _, _, rfl, HNres89.out.out, ⟨by omega, by omega, by omega⟩, by rw [cnt3]; omega⟩, HS89.out.below⟩
  have p1 := rG HS85 1
  go_simp
  refine onW hK (kS (HS85.out.st3 1 rfl _ _ _) [7, 4, 6, 8]) fun W90 hW90 => ?_
  clear hK K
  have HS90 := onS hW90 (HS85.out.st3 1 rfl _ _ _)
  have HNn90 := hide (Nx.onto hW90 (HNn85.out.st3 (by simp) _ _ _))
  have HNk90 := hide (Nx.onto hW90 (HNk85.out.st3 (by simp) _ _ _))
  have HNx90 := hide (Nx.onto hW90 (HNx85.out.st3 (by simp) _ _ _))
  clear HNn85 HNk85 HNx85
  clear hW90 HS85
  clear p1
  refine rY 4 fun K hK => ?_
  go_simp
  refine onW hK (kS (HS90.out.al _) [7, 4, 6, 8]) fun W91 hW91 => ?_
  clear hK K
  have HS91 := hide (St.onto hW91 (HS90.out.al _))
  have HNn91 := hide (Nx.onto hW91 (HNn90.out.al _))
  have HNk91 := hide (Nx.onto hW91 (HNk90.out.al _))
  have HNx91 := hide (Nx.onto hW91 (HNx90.out.al _))
  have HNres91 := hide (show Nx w W91 [w.heap.size, w.heap.size + 1, w.heap.size + 1 + 1, w67.heap.size, w67.heap.size + 1, w79.heap.size, w79.heap.size + 1, w83.heap.size, w83.heap.size + 1] (Nd.of 26 ⟨#[]⟩ [d67, d79, d83]) (.agg #[.int .i64 26, .string ⟨#[]⟩, .slice (some ⟨W90.heap.size, 0, none⟩) 3 3]) from hW91 ▸ (Sx.join (Rx.lit (Rx.cons HNn90.out (Rx.cons HNk90.out (Rx.cons HNx90.out (Rx.nil)))) HS90.out rfl (by simp [maxLen])) (by omega) (by decide)))
  clear HNn90 HNk90 HNx90
  clear hW91 HS90
  refine tK 5 (kS HS91.out [7, 4, 6, 8]) ?_
  refine rY 7 fun K hK => ?_
  have p2 := rG HS91 2
  go_simp
  refine onW hK (kS (HS91.out.st3 2 rfl _ _ _) [7, 4, 6, 8]) fun W92 hW92 => ?_
  clear hK K
  have HS92 := onS hW92 (HS91.out.st3 2 rfl _ _ _)
  have HNn92 := hide (Nx.onto hW92 (HNn91.out.st3 (by simp) _ _ _))
  have HNk92 := hide (Nx.onto hW92 (HNk91.out.st3 (by simp) _ _ _))
  have HNx92 := hide (Nx.onto hW92 (HNx91.out.st3 (by simp) _ _ _))
  have HNres92 := hide (Nx.onto hW92 (HNres91.out.st3 (by simp) _ _ _))
  clear HNn91 HNk91 HNx91 HNres91
  clear hW92 HS91
  clear p2
  refine wpAnyH_done (by kernel_rfl) ?_ _
  go_wp2_with fail
  refine namedPost fun W93 hW93 => ?_
  have HS93 := hide (St.onto hW93 HS92.out)
  have HNn93 := hide (Nx.onto hW93 HNn92.out)
  have HNk93 := hide (Nx.onto hW93 HNk92.out)
  have HNx93 := hide (Nx.onto hW93 HNx92.out)
  have HNres93 := hide (Nx.onto hW93 HNres92.out)
  clear HNn92 HNk92 HNx92 HNres92
  clear hW93 HS92
  exact ended_pn rfl rfl rfl (HS93.out.get 1 rfl) (HS93.out.get 2 rfl) ⟨⟨_, _, _, _, _, _, _, _, rfl, HNres93.out.out, ⟨by omega, by omega, by omega⟩, by rw [cnt3]; omega⟩, HS93.out.below⟩
end Go.Proofs.YtacgmmpdichlmaaGreat
