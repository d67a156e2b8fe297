/-
  The reference's unit, value: an object's value. Its condition: the parser's items lie in memory.
-/
import Derived.Test.YtacgmmpdichlmaaGreatM02
namespace Go.Proofs.YtacgmmpdichlmaaGreat
open Go.RowKit
attribute [local go_sem ↓] Go.wp_at_zero Go.wp_at_succ

set_option maxRecDepth 4000 in
set_option maxHeartbeats 4000000 in
theorem unit_k {l : List Tk} {a : Option Addr} {cap m : Nat} (K : Kn l a cap m) (hpost : ∀ ⦃i : Nat⦄ ⦃bad : Bool⦄ ⦃w : World⦄, Its w a l → i ≤ l.length → leftP l.length i bad ≤ m → Calls Tryz.prog 108 #[.agg #[.slice a l.length cap, .int .i64 i, .bool bad]] w (PN l a cap w i bad 2)) {i : Nat} {bad : Bool} {w : World} (hi : Its w a l) (hat : i ≤ l.length) (hm : leftP l.length i bad ≤ m) : Calls Tryz.prog 123 #[.agg #[.slice a l.length cap, .int .i64 i, .bool bad]] w (PN l a cap w i bad 2) := by
  have HK := hide K
  have hlen := hi.2.1
  clear K
  have Hpost := hide hpost
  clear hpost
  go_enter Tryz.func123, Tryz.ntmps123
  go_wp2_with fail
  refine named fun W1 hW1 => ?_
  have HS1 := onS hW1 (St.nil w).va.va.va
  clear hW1
  refine (op_any ⟨#[45]⟩ (hi.below HS1.out.below)).mono ?_
  rintro e w2 ⟨rfl, hb2⟩
  have HS2 := hide (HS1.out.call hb2)
  clear hb2 HS1
  have p0 := rD HS2
  cases hq3 : opB (tokAt l i bad) ⟨#[45]⟩
  case true =>
   obtain ⟨rfl, hlt4⟩ := opB_in hq3
   clear hq3
   go_wp2_with fail
   refine (next_in (n := l.length) ⟨_, _, _, rfl⟩ (by omega) hlen).mono ?_
   rintro e w6 ⟨⟨j5, rfl, hj5, hl5, hp5⟩, hb6⟩
   have HS6 := hide (HS2.out.call hb6)
   clear hb6 HS2
   clear p0
   have p0 := rD HS6
   go_wp2_with fail
   refine (HK.out.unit (hi.below HS6.out.below) (by omega) (by omega)).mono ?_
   rintro e w7 ⟨⟨i7, bad7, d7, k7, s7, y7, m7, c7, rfl, hn7, ⟨hi7, hl7, hp7⟩, hc7⟩, hb7⟩
   have HS7 := hide (HS6.out.call hb7)
   have HNx7 := hide (show Nx w w7 [w.heap.size, w.heap.size + 1, w.heap.size + 1 + 1] _ _ from Nx.made hn7 HS6.out)
   clear hn7 hb7 HS6
   clear p0
   have p0 := rD HS7
   go_wp2_with fail
   have lv8 := lV HS7
   refine namedWp fun W8 hW8 => ?_
   have HS8 := onS hW8 HS7.out.va.va
   have HNx8 := hide (Nx.onto hW8 ((HNx7.out.var (g := w7.heap.size) (by simp) _).var (g := w7.heap.size + 1) (by simp) _))
   clear HNx7
   clear hW8 HS7
   clear p0
   refine rgn HS8.out [3, 4] fun W9 hW9 => ?_
   have HS9 := hide (St.onto hW9 HS8.out.dr)
   have HNx9 := hide (Nx.onto hW9 HNx8.out.dr)
   clear HNx8
   clear hW9 HS8
   refine tK 0 (kS HS9.out [3, 4]) ?_
   refine tK 1 (kS HS9.out [3, 4]) ?_
   refine rY2 2 4 (fun K hK => ?_) (fun K hK => ?_)
   ·
    go_simp
    refine onW hK (kS (HS9.out.al _) [3, 4]) fun W10 hW10 => ?_
    clear hK K
    have HS10 := hide (St.onto hW10 (HS9.out.al _))
    have HNx10 := hide (Nx.onto hW10 (HNx9.out.al _))
    have HNres10 := hide (show Nx w W10 [w.heap.size, w.heap.size + 1, w.heap.size + 1 + 1, w7.heap.size, w7.heap.size + 1] (Nd.of 25 ⟨#[]⟩ [d7]) (.agg #[.int .i64 25, .string ⟨#[]⟩, .slice (some ⟨W9.heap.size, 0, none⟩) 1 1]) from hW10 ▸ (Sx.join (Rx.lit (Rx.cons HNx9.out (Rx.nil)) HS9.out rfl (by simp [maxLen])) (by omega) (by decide)))
    clear HNx9
    clear hW10 HS9
    refine tK 3 (kS HS10.out [3, 4]) ?_
    refine rY 4 fun K hK => ?_
    have p1 := rG HS10 1
    go_simp
    refine onW hK (kS (HS10.out.st3 1 rfl _ _ _) [3, 4]) fun W11 hW11 => ?_
    clear hK K
    have HS11 := onS hW11 (HS10.out.st3 1 rfl _ _ _)
    have HNx11 := hide (Nx.onto hW11 (HNx10.out.st3 (by simp) _ _ _))
    have HNres11 := hide (Nx.onto hW11 (HNres10.out.st3 (by simp) _ _ _))
    clear HNx10 HNres10
    clear hW11 HS10
    clear p1
    refine rY 5 fun K hK => ?_
    have p2 := rG HS11 2
    go_simp
    refine onW hK (kS (HS11.out.st3 2 rfl _ _ _) [3, 4]) fun W12 hW12 => ?_
    clear hK K
    have HS12 := onS hW12 (HS11.out.st3 2 rfl _ _ _)
    have HNx12 := hide (Nx.onto hW12 (HNx11.out.st3 (by simp) _ _ _))
    have HNres12 := hide (Nx.onto hW12 (HNres11.out.st3 (by simp) _ _ _))
    clear HNx11 HNres11
    clear hW12 HS11
    clear p2
    refine wpAnyH_done (by kernel_rfl) ?_ _
    go_wp2_with fail
    refine namedPost fun W13 hW13 => ?_
    have HS13 := hide (St.onto hW13 HS12.out)
    have HNx13 := hide (Nx.onto hW13 HNx12.out)
    have HNres13 := hide (Nx.onto hW13 HNres12.out)
    clear HNx12 HNres12
    clear hW13 HS12
    exact ended_pn rfl rfl rfl (HS13.out.get 1 rfl) (HS13.out.get 2 rfl) ⟨⟨_, _, _, _, _, _, _, _, rfl, HNres13.out.out, ⟨by omega, by omega, by omega⟩, by rw [cnt1]; omega⟩, HS13.out.below⟩
   have p1 := rG HS9 1
   go_simp
   refine onW hK (kS (HS9.out.st3 1 rfl _ _ _) [3, 4]) fun W14 hW14 => ?_
   clear hK K
   have HS14 := onS hW14 (HS9.out.st3 1 rfl _ _ _)
   have HNx14 := hide (Nx.onto hW14 (HNx9.out.st3 (by simp) _ _ _))
   clear HNx9
   clear hW14 HS9
   clear p1
   refine rY 2 fun K hK => ?_
   go_simp
   refine onW hK (kS (HS14.out.al _) [3, 4]) fun W15 hW15 => ?_
   clear hK K
   have HS15 := hide (St.onto hW15 (HS14.out.al _))
   have HNx15 := hide (Nx.onto hW15 (HNx14.out.al _))
   have HNres15 := hide (show Nx w W15 [w.heap.size, w.heap.size + 1, w.heap.size + 1 + 1, w7.heap.size, w7.heap.size + 1] (Nd.of 25 ⟨#[]⟩ [d7]) (.agg #[.int .i64 25, .string ⟨#[]⟩, .slice (some ⟨W14.heap.size, 0, none⟩) 1 1]) from hW15 ▸ (Sx.join (Rx.lit (Rx.cons HNx14.out (Rx.nil)) HS14.out rfl (by simp [maxLen])) (by omega) (by decide)))
   clear HNx14
   clear hW15 HS14
   refine tK 3 (kS HS15.out [3, 4]) ?_
   refine rY 5 fun K hK => ?_
   have p2 := rG HS15 2
   go_simp
   refine onW hK (kS (HS15.out.st3 2 rfl _ _ _) [3, 4]) fun W16 hW16 => ?_
   clear hK K
   have HS16 := onS hW16 (HS15.out.st3 2 rfl _ _ _)
   have HNx16 := hide (Nx.onto hW16 (HNx15.out.st3 (by simp) _ _ _))
   have HNres16 := hide (Nx.onto hW16 (HNres15.out.st3 (by simp) _ _ _))
   clear HNx15 HNres15
   clear hW16 HS15
   clear p2
   refine wpAnyH_done (by kernel_rfl) ?_ _
   go_wp2_with fail
   refine namedPost fun W17 hW17 => ?_
   have HS17 := hide (St.onto hW17 HS16.out)
   have HNx17 := hide (Nx.onto hW17 HNx16.out)
   have HNres17 := hide (Nx.onto hW17 HNres16.out)
   clear HNx16 HNres16
   clear hW17 HS16
   exact ended_pn rfl rfl rfl (HS17.out.get 1 rfl) (HS17.out.get 2 rfl) ⟨⟨_, _, _, _, _, _, _, _, rfl, HNres17.out.out, ⟨by omega, by omega, by omega⟩, by rw [cnt1]; omega⟩, HS17.out.below⟩
  clear hq3
  go_wp2_with fail
  refine (Hpost.out (hi.below HS2.out.below) (by omega) (by omega)).mono ?_
  rintro e w18 ⟨⟨i18, bad18, d18, k18, s18, y18, m18, c18, rfl, hn18, ⟨hi18, hl18, hp18⟩, hc18⟩, hb18⟩
  have HS18 := hide (HS2.out.call hb18)
  have HNx18 := hide (show Nx w w18 [w.heap.size, w.heap.size + 1, w.heap.size + 1 + 1] _ _ from Nx.made hn18 HS2.out)
  clear hn18 hb18 HS2
  clear p0
  have p0 := rD HS18
  go_wp2_with fail
  have lv19 := lV HS18
  refine namedWp fun W19 hW19 => ?_
  have HS19 := onS hW19 HS18.out.va.va
  have HNx19 := hide (Nx.onto hW19 ((HNx18.out.var (g := w18.heap.size) (by simp) _).var (g := w18.heap.size + 1) (by simp) _))
  clear HNx18
  clear hW19 HS18
  clear p0
  refine rgn HS19.out [3, 4] fun W20 hW20 => ?_
  have HS20 := hide (St.onto hW20 HS19.out.dr)
  have HNx20 := hide (Nx.onto hW20 HNx19.out.dr)
  clear HNx19
  clear hW20 HS19
  refine tK 0 (kS HS20.out [3, 4]) ?_
  refine tK 1 (kS HS20.out [3, 4]) ?_
  refine rY 2 fun K hK => ?_
  have p1 := rG HS20 1
  go_simp
  refine onW hK (kS (HS20.out.st3 1 rfl _ _ _) [3, 4]) fun W21 hW21 => ?_
  clear hK K
  have HS21 := onS hW21 (HS20.out.st3 1 rfl _ _ _)
  have HNx21 := hide (Nx.onto hW21 (HNx20.out.st3 (by simp) _ _ _))
  clear HNx20
  clear hW21 HS20
  clear p1
  refine rY 3 fun K hK => ?_
  have p2 := rG HS21 2
  go_simp
  refine onW hK (kS (HS21.out.st3 2 rfl _ _ _) [3, 4]) fun W22 hW22 => ?_
  clear hK K
  have HS22 := onS hW22 (HS21.out.st3 2 rfl _ _ _)
  have HNx22 := hide (Nx.onto hW22 (HNx21.out.st3 (by simp) _ _ _))
  clear HNx21
  clear hW22 HS21
  clear p2
  refine wpAnyH_done (by kernel_rfl) ?_ _
  go_wp2_with fail
  refine namedPost fun W23 hW23 => ?_
  have HS23 := hide (St.onto hW23 HS22.out)
  have HNx23 := hide (Nx.onto hW23 HNx22.out)
  clear HNx22
  clear hW23 HS22
  exact ended_pn rfl rfl rfl (HS23.out.get 1 rfl) (HS23.out.get 2 rfl) ⟨⟨_, _, _, _, _, _, _, _, rfl, HNx23.out.out, ⟨by omega, by omega, by omega⟩, by omega⟩, HS23.out.below⟩
set_option maxRecDepth 4000 in
set_option maxHeartbeats 4000000 in
theorem value_k {l : List Tk} {a : Option Addr} {cap m : Nat} (K : Kn l a cap m) (hunit : ∀ ⦃i : Nat⦄ ⦃bad : Bool⦄ ⦃w : World⦄, Its w a l → i ≤ l.length → leftP l.length i bad ≤ m → Calls Tryz.prog 123 #[.agg #[.slice a l.length cap, .int .i64 i, .bool bad]] w (PN l a cap w i bad 2)) {i : Nat} {bad : Bool} {w : World} (hi : Its w a l) (hat : i ≤ l.length) (hm : leftP l.length i bad ≤ m) : Calls Tryz.prog 122 #[.agg #[.slice a l.length cap, .int .i64 i, .bool bad]] w (PN l a cap w i bad 2) := by
  have HK := hide K
  have hlen := hi.2.1
  clear K
  have Hunit := hide hunit
  clear hunit
  go_enter Tryz.func122, Tryz.ntmps122
  go_wp2_with fail
  refine named fun W1 hW1 => ?_
  have HS1 := onS hW1 (St.nil w).va.va.va
  clear hW1
  refine (Hunit.out (hi.below HS1.out.below) (by omega) (by omega)).mono ?_
  rintro e w2 ⟨⟨i2, bad2, d2, k2, s2, y2, m2, c2, rfl, hn2, ⟨hi2, hl2, hp2⟩, hc2⟩, hb2⟩
  have HS2 := hide (HS1.out.call hb2)
  have HNn2 := hide (show Nx w w2 [w.heap.size, w.heap.size + 1, w.heap.size + 1 + 1] _ _ from Nx.made hn2 HS1.out)
  clear hn2 hb2 HS1
  have p0 := rD HS2
  go_wp2_with fail
  have lv3 := lV HS2
  refine named fun W3 hW3 => ?_
  have HS3 := onS hW3 (HS2.out.st3 0 rfl _ _ _).va
  have HNn3 := hide (Nx.onto hW3 ((HNn2.out.st3 (by simp) _ _ _).var (g := w2.heap.size) (by simp) _))
  clear HNn2
  clear hW3 HS2
  clear p0
  refine (op_any ⟨#[124]⟩ (hi.below HS3.out.below)).mono ?_
  rintro e w4 ⟨rfl, hb4⟩
  have HS4 := hide (HS3.out.call hb4)
  have HNn4 := hide (HNn3.out.call hb4)
  clear HNn3
  clear hb4 HS3
  have p0 := rD HS4
  cases hq5 : opB (tokAt l i2 bad2) ⟨#[124]⟩
  case false =>
   clear hq5
   go_wp2_with fail
   refine namedWp fun W6 hW6 => ?_
   have HS6 := hide (St.onto hW6 HS4.out)
   have HNn6 := hide (Nx.onto hW6 HNn4.out)
   clear HNn4
   clear hW6 HS4
   clear p0
   refine rgn HS6.out [0, 3] fun W7 hW7 => ?_
   have HS7 := hide (St.onto hW7 HS6.out.dr)
   have HNn7 := hide (Nx.onto hW7 HNn6.out.dr)
   clear HNn6
   clear hW7 HS6
   refine tK 0 (kS HS7.out [0, 3]) ?_
   refine tK 1 (kS HS7.out [0, 3]) ?_
   refine rY 2 fun K hK => ?_
   have p1 := rG HS7 1
   go_simp
   refine onW hK (kS (HS7.out.st3 1 rfl _ _ _) [0, 3]) fun W8 hW8 => ?_
   clear hK K
   have HS8 := onS hW8 (HS7.out.st3 1 rfl _ _ _)
   have HNn8 := hide (Nx.onto hW8 (HNn7.out.st3 (by simp) _ _ _))
   clear HNn7
   clear hW8 HS7
   clear p1
   refine rY 3 fun K hK => ?_
   have p2 := rG HS8 2
   go_simp
   refine onW hK (kS (HS8.out.st3 2 rfl _ _ _) [0, 3]) fun W9 hW9 => ?_
   clear hK K
   have HS9 := onS hW9 (HS8.out.st3 2 rfl _ _ _)
   have HNn9 := hide (Nx.onto hW9 (HNn8.out.st3 (by simp) _ _ _))
   clear HNn8
   clear hW9 HS8
   clear p2
   refine wpAnyH_done (by kernel_rfl) ?_ _
   go_wp2_with fail
   refine namedPost fun W10 hW10 => ?_
   have HS10 := hide (St.onto hW10 HS9.out)
   have HNn10 := hide (Nx.onto hW10 HNn9.out)
   clear HNn9
   clear hW10 HS9
   exact ended_pn rfl rfl rfl (HS10.out.get 1 rfl) (HS10.out.get 2 rfl) ⟨⟨_, _, _, _, _, _, _, _, rfl, HNn10.out.out, ⟨by omega, by omega, by omega⟩, by omega⟩, HS10.out.below⟩
  obtain ⟨rfl, hlt11⟩ := opB_in hq5
  clear hq5
  go_wp2_with fail
  refine (next_in (n := l.length) ⟨_, _, _, rfl⟩ (by omega) hlen).mono ?_
  rintro e w13 ⟨⟨j12, rfl, hj12, hl12, hp12⟩, hb13⟩
  have HS13 := hide (HS4.out.call hb13)
  have HNn13 := hide (HNn4.out.call hb13)
  clear HNn4
  clear hb13 HS4
  clear p0
  have p0 := rD HS13
  go_wp2_with fail
  refine (HK.out.value (hi.below HS13.out.below) (by omega) (by omega)).mono ?_
  rintro e w14 ⟨⟨i14, bad14, d14, k14, s14, y14, m14, c14, rfl, hn14, ⟨hi14, hl14, hp14⟩, hc14⟩, hb14⟩
  have HS14 := hide (HS13.out.call hb14)
  have HNn14 := hide (HNn13.out.call hb14)
  clear HNn13
  have HNx14 := hide (show Nx w w14 [w.heap.size, w.heap.size + 1, w.heap.size + 1 + 1, w2.heap.size] _ _ from Nx.made hn14 HS13.out)
  clear hn14 hb14 HS13
  clear p0
  have p0 := rD HS14
  go_wp2_with fail
  have lv15 := lV HS14
  refine namedWp fun W15 hW15 => ?_
  have HS15 := onS hW15 HS14.out.va.va
  have HNn15 := hide (Nx.onto hW15 ((HNn14.out.var (g := w14.heap.size) (by simp) _).var (g := w14.heap.size + 1) (by simp) _))
  have HNx15 := hide (Nx.onto hW15 ((HNx14.out.var (g := w14.heap.size) (by simp) _).var (g := w14.heap.size + 1) (by simp) _))
  clear HNn14 HNx14
  clear hW15 HS14
  clear p0
  refine rgn HS15.out [4, 3, 5] fun W16 hW16 => ?_
  have HS16 := hide (St.onto hW16 HS15.out.dr)
  have HNn16 := hide (Nx.onto hW16 HNn15.out.dr)
  have HNx16 := hide (Nx.onto hW16 HNx15.out.dr)
  clear HNn15 HNx15
  clear hW16 HS15
  refine tK 0 (kS HS16.out [4, 3, 5]) ?_
  refine tK 1 (kS HS16.out [4, 3, 5]) ?_
  refine tK 2 (kS HS16.out [4, 3, 5]) ?_
  refine rY2 3 5 (fun K hK => ?_) (fun K hK => ?_)
  ·
   go_simp
   refine onW hK (kS (HS16.out.al _) [4, 3, 5]) fun W17 hW17 => ?_
   clear hK K
   have HS17 := hide (St.onto hW17 (HS16.out.al _))
   have HNn17 := hide (Nx.onto hW17 (HNn16.out.al _))
   have HNx17 := hide (Nx.onto hW17 (HNx16.out.al _))
   have HNres17 := hide (show Nx w W17 [w.heap.size, w.heap.size + 1, w.heap.size + 1 + 1, w2.heap.size, w14.heap.size, w14.heap.size + 1] (Nd.of 24 ⟨#[124]⟩ [d2, d14]) (.agg #[.int .i64 24, .string ⟨#[124]⟩, .slice (some ⟨W16.heap.size, 0, none⟩) 2 2]) from hW17 ▸ (Sx.join (Rx.lit (Rx.cons HNn16.out (Rx.cons HNx16.out (Rx.nil))) HS16.out rfl (by simp [maxLen])) (by omega) (by decide)))
   clear HNn16 HNx16
   clear hW17 HS16
   refine tK 4 (kS HS17.out [4, 3, 5]) ?_
   refine rY 5 fun K hK => ?_
   have p1 := rG HS17 1
   go_simp
   refine onW hK (kS (HS17.out.st3 1 rfl _ _ _) [4, 3, 5]) fun W18 hW18 => ?_
   clear hK K
   have HS18 := onS hW18 (HS17.out.st3 1 rfl _ _ _)
   have HNn18 := hide (Nx.onto hW18 (HNn17.out.st3 (by simp) _ _ _))
   have HNx18 := hide (Nx.onto hW18 (HNx17.out.st3 (by simp) _ _ _))
   have HNres18 := hide (Nx.onto hW18 (HNres17.out.st3 (by simp) _ _ _))
   clear HNn17 HNx17 HNres17
   clear hW18 HS17
   clear p1
   refine rY 6 fun K hK => ?_
   have p2 := rG HS18 2
   go_simp
   refine onW hK (kS (HS18.out.st3 2 rfl _ _ _) [4, 3, 5]) fun W19 hW19 => ?_
   clear hK K
   have HS19 := onS hW19 (HS18.out.st3 2 rfl _ _ _)
   have HNn19 := hide (Nx.onto hW19 (HNn18.out.st3 (by simp) _ _ _))
   have HNx19 := hide (Nx.onto hW19 (HNx18.out.st3 (by simp) _ _ _))
   have HNres19 := hide (Nx.onto hW19 (HNres18.out.st3 (by simp) _ _ _))
   clear HNn18 HNx18 HNres18
   clear hW19 HS18
   clear p2
   refine wpAnyH_done (by kernel_rfl) ?_ _
   go_wp2_with fail
   refine namedPost fun W20 hW20 => ?_
   have HS20 := hide (St.onto hW20 HS19.out)
   have HNn20 := hide (Nx.onto hW20 HNn19.out)
   have HNx20 := hide (Nx.onto hW20 HNx19.out)
   have HNres20 := hide (Nx.onto hW20 HNres19.out)
   clear HNn19 HNx19 HNres19
   clear hW20 HS19
   exact ended_pn rfl rfl rfl (HS20.out.get 1 rfl) (HS20.out.get 2 rfl) ⟨⟨_, _, _, _, _, _, _, _, rfl, HNres20.out.out, ⟨by omega, by omega, by omega⟩, by rw [cnt2]; omega⟩, HS20.out.below⟩
  have p1 := rG HS16 1
  go_simp
  refine onW hK (kS (HS16.out.st3 1 rfl _ _ _) [4, 3, 5]) fun W21 hW21 => ?_
  clear hK K
  have HS21 := onS hW21 (HS16.out.st3 1 rfl _ _ _)
  have HNn21 := hide (Nx.onto hW21 (HNn16.out.st3 (by simp) _ _ _))
  have HNx21 := hide (Nx.onto hW21 (HNx16.out.st3 (by simp) _ _ _))
  clear HNn16 HNx16
  clear hW21 HS16
  clear p1
  refine rY 3 fun K hK => ?_
  go_simp
  refine onW hK (kS (HS21.out.al _) [4, 3, 5]) fun W22 hW22 => ?_
  clear hK K
  have HS22 := hide (St.onto hW22 (HS21.out.al _))
  have HNn22 := hide (Nx.onto hW22 (HNn21.out.al _))
  have HNx22 := hide (Nx.onto hW22 (HNx21.out.al _))
  have HNres22 := hide (show Nx w W22 [w.heap.size, w.heap.size + 1, w.heap.size + 1 + 1, w2.heap.size, w14.heap.size, w14.heap.size + 1] (Nd.of 24 ⟨#[124]⟩ [d2, d14]) (.agg #[.int .i64 24, .string ⟨#[124]⟩, .slice (some ⟨W21.heap.size, 0, none⟩) 2 2]) from hW22 ▸ (Sx.join (Rx.lit (Rx.cons HNn21.out (Rx.cons HNx21.out (Rx.nil))) HS21.out rfl (by simp [maxLen])) (by omega) (by decide)))
  clear HNn21 HNx21
  clear hW22 HS21
  refine tK 4 (kS HS22.out [4, 3, 5]) ?_
  refine rY 6 fun K hK => ?_
  have p2 := rG HS22 2
  go_simp
  refine onW hK (kS (HS22.out.st3 2 rfl _ _ _) [4, 3, 5]) fun W23 hW23 => ?_
  clear hK K
  have HS23 := onS hW23 (HS22.out.st3 2 rfl _ _ _)
  have HNn23 := hide (Nx.onto hW23 (HNn22.out.st3 (by simp) _ _ _))
  have HNx23 := hide (Nx.onto hW23 (HNx22.out.st3 (by simp) _ _ _))
  have HNres23 := hide (Nx.onto hW23 (HNres22.out.st3 (by simp) _ _ _))
  clear HNn22 HNx22 HNres22
  clear hW23 HS22
  clear p2
  refine wpAnyH_done (by kernel_rfl) ?_ _
  go_wp2_with fail
  refine namedPost fun W24 hW24 => ?_
  have HS24 := hide (St.onto hW24 HS23.out)
  have HNn24 := hide (Nx.onto hW24 HNn23.out)
  have HNx24 := hide (Nx.onto hW24 HNx23.out)
  have HNres24 := hide (Nx.onto hW24 HNres23.out)
  clear HNn23 HNx23 HNres23
  clear hW24 HS23
  exact ended_pn rfl rfl rfl (HS24.out.get 1 rfl) (HS24.out.get 2 rfl) ⟨⟨_, _, _, _, _, _, _, _, rfl, HNres24.out.out, ⟨by omega, by omega, by omega⟩, by rw [cnt2]; omega⟩, HS24.out.below⟩
end Go.Proofs.YtacgmmpdichlmaaGreat
