/-
  The reference's fold: a reduce, or a foreach. Its condition: the parser's items lie in memory.
-/
import Derived.Test.YtacgmmpdichlmaaGreatM04
namespace Go.Proofs.YtacgmmpdichlmaaGreat
open Go.RowKit
attribute [local go_sem ↓] Go.wp_at_zero Go.wp_at_succ

set_option maxRecDepth 4000 in
set_option maxHeartbeats 4000000 in
theorem fold_k {l : List Tk} {a : Option Addr} {cap m : Nat} (K : Kn l a cap m) (hpost : ∀ ⦃i : Nat⦄ ⦃bad : Bool⦄ ⦃w : World⦄, Its w a l → i ≤ l.length → leftP l.length i bad ≤ m → Calls Tryz.prog 108 #[.agg #[.slice a l.length cap, .int .i64 i, .bool bad]] w (PN l a cap w i bad 2)) (hpattern : ∀ ⦃i : Nat⦄ ⦃bad : Bool⦄ ⦃w : World⦄, Its w a l → i ≤ l.length → leftP l.length i bad ≤ m → Calls Tryz.prog 109 #[.agg #[.slice a l.length cap, .int .i64 i, .bool bad]] w (PN l a cap w i bad 2)) (hpipe : ∀ ⦃i : Nat⦄ ⦃bad : Bool⦄ ⦃w : World⦄, Its w a l → i ≤ l.length → leftP l.length i bad ≤ m → Calls Tryz.prog 72 #[.agg #[.slice a l.length cap, .int .i64 i, .bool bad]] w (PN l a cap w i bad 2)) (x y : Nat) (hx : x ≤ 100) {i : Nat} {bad : Bool} {w : World} (hi : Its w a l) (hat : i ≤ l.length) (hm : leftP l.length i bad ≤ m) : Calls Tryz.prog 121 #[.agg #[.slice a l.length cap, .int .i64 i, .bool bad], .int .i64 x, .int .i64 y] w (PN l a cap w i bad 10) := by
  have HK := hide K
  have hlen := hi.2.1
  clear K
  have Hpost := hide hpost
  clear hpost
  have Hpattern := hide hpattern
  clear hpattern
  have Hpipe := hide hpipe
  clear hpipe
  go_enter Tryz.func121, Tryz.ntmps121
  go_wp2_with fail
  refine named fun W1 hW1 => ?_
  have HS1 := onS hW1 (St.nil w).va.va.va
  clear hW1
  refine (Hpost.out (hi.below HS1.out.below) (by omega) (by omega)).mono ?_
  rintro e w2 ⟨⟨i2, bad2, d2, k2, s2, y2, m2, c2, rfl, hn2, ⟨hi2, hl2, hp2⟩, hc2⟩, hb2⟩
  have HS2 := hide (HS1.out.call hb2)
  have HNsrc2 := hide (show Nx w w2 [w.heap.size, w.heap.size + 1, w.heap.size + 1 + 1] _ _ from Nx.made hn2 HS1.out)
  clear hn2 hb2 HS1
  have p0 := rD HS2
  go_wp2_with fail
  have lv3 := lV HS2
  refine named fun W3 hW3 => ?_
  have HS3 := onS hW3 (HS2.out.st3 0 rfl _ _ _).va
  have HNsrc3 := hide (Nx.onto hW3 ((HNsrc2.out.st3 (by simp) _ _ _).var (g := w2.heap.size) (by simp) _))
  clear HNsrc2
  clear hW3 HS2
  clear p0
  refine (need_any ⟨#[97, 115]⟩ (hi.below HS3.out.below) (by omega)).mono ?_
  rintro e w5 ⟨⟨i4, bad4, rfl, hr4⟩, hb5⟩
  have HS5 := hide (HS3.out.call hb5)
  have HNsrc5 := hide (HNsrc3.out.call hb5)
  clear HNsrc3
  clear hb5 HS3
  obtain ⟨hi4, hl4, hp4, hj4⟩ := hr4.out (by omega)
  clear hr4
  have p0 := rD HS5
  go_wp2_with fail
  refine (Hpattern.out (hi.below HS5.out.below) (by omega) (by omega)).mono ?_
  rintro e w6 ⟨⟨i6, bad6, d6, k6, s6, y6, m6, c6, rfl, hn6, ⟨hi6, hl6, hp6⟩, hc6⟩, hb6⟩
  have HS6 := hide (HS5.out.call hb6)
  have HNsrc6 := hide (HNsrc5.out.call hb6)
  clear HNsrc5
  have HNpat6 := hide (show Nx w w6 [w.heap.size, w.heap.size + 1, w.heap.size + 1 + 1, w2.heap.size] _ _ from Nx.made hn6 HS5.out)
  clear hn6 hb6 HS5
  clear p0
  have p0 := rD HS6
  go_wp2_with fail
  have lv7 := lV HS6
  refine named fun W7 hW7 => ?_
  have HS7 := onS hW7 HS6.out.va.va
  have HNsrc7 := hide (Nx.onto hW7 ((HNsrc6.out.var (g := w6.heap.size) (by simp) _).var (g := w6.heap.size + 1) (by simp) _))
  have HNpat7 := hide (Nx.onto hW7 ((HNpat6.out.var (g := w6.heap.size) (by simp) _).var (g := w6.heap.size + 1) (by simp) _))
  clear HNsrc6 HNpat6
  clear hW7 HS6
  clear p0
  refine (need_any ⟨#[40]⟩ (hi.below HS7.out.below) (by omega)).mono ?_
  rintro e w9 ⟨⟨i8, bad8, rfl, hr8⟩, hb9⟩
  have HS9 := hide (HS7.out.call hb9)
  have HNsrc9 := hide (HNsrc7.out.call hb9)
  clear HNsrc7
  have HNpat9 := hide (HNpat7.out.call hb9)
  clear HNpat7
  clear hb9 HS7
  obtain ⟨hi8, hl8, hp8, hj8⟩ := hr8.out (by omega)
  clear hr8
  have p0 := rD HS9
  go_wp2_with fail
  refine (Hpipe.out (hi.below HS9.out.below) (by omega) (by omega)).mono ?_
  rintro e w10 ⟨⟨i10, bad10, d10, k10, s10, y10, m10, c10, rfl, hn10, ⟨hi10, hl10, hp10⟩, hc10⟩, hb10⟩
  have HS10 := hide (HS9.out.call hb10)
  have HNsrc10 := hide (HNsrc9.out.call hb10)
  clear HNsrc9
  have HNpat10 := hide (HNpat9.out.call hb10)
  clear HNpat9
  have HNa10 := hide (show Nx w w10 [w.heap.size, w.heap.size + 1, w.heap.size + 1 + 1, w2.heap.size, w6.heap.size, w6.heap.size + 1] _ _ from Nx.made hn10 HS9.out)
  clear hn10 hb10 HS9
  clear p0
  have p0 := rD HS10
  go_wp2_with fail
  have lv11 := lV HS10
  refine named fun W11 hW11 => ?_
  have HS11 := onS hW11 HS10.out.va.va
  have HNsrc11 := hide (Nx.onto hW11 ((HNsrc10.out.var (g := w10.heap.size) (by simp) _).var (g := w10.heap.size + 1) (by simp) _))
  have HNpat11 := hide (Nx.onto hW11 ((HNpat10.out.var (g := w10.heap.size) (by simp) _).var (g := w10.heap.size + 1) (by simp) _))
  have HNa11 := hide (Nx.onto hW11 ((HNa10.out.var (g := w10.heap.size) (by simp) _).var (g := w10.heap.size + 1) (by simp) _))
  clear HNsrc10 HNpat10 HNa10
  clear hW11 HS10
  clear p0
  refine (need_any ⟨#[59]⟩ (hi.below HS11.out.below) (by omega)).mono ?_
  rintro e w13 ⟨⟨i12, bad12, rfl, hr12⟩, hb13⟩
  have HS13 := hide (HS11.out.call hb13)
  have HNsrc13 := hide (HNsrc11.out.call hb13)
  clear HNsrc11
  have HNpat13 := hide (HNpat11.out.call hb13)
  clear HNpat11
  have HNa13 := hide (HNa11.out.call hb13)
  clear HNa11
  clear hb13 HS11
  obtain ⟨hi12, hl12, hp12, hj12⟩ := hr12.out (by omega)
  clear hr12
  have p0 := rD HS13
  go_wp2_with fail
  refine (Hpipe.out (hi.below HS13.out.below) (by omega) (by omega)).mono ?_
  rintro e w14 ⟨⟨i14, bad14, d14, k14, s14, y14, m14, c14, rfl, hn14, ⟨hi14, hl14, hp14⟩, hc14⟩, hb14⟩
  have HS14 := hide (HS13.out.call hb14)
  have HNsrc14 := hide (HNsrc13.out.call hb14)
  clear HNsrc13
  have HNpat14 := hide (HNpat13.out.call hb14)
  clear HNpat13
  have HNa14 := hide (HNa13.out.call hb14)
  clear HNa13
  have HNb14 := hide (show Nx w w14 [w.heap.size, w.heap.size + 1, w.heap.size + 1 + 1, w2.heap.size, w6.heap.size, w6.heap.size + 1, w10.heap.size, w10.heap.size + 1] _ _ from Nx.made hn14 HS13.out)
  clear hn14 hb14 HS13
  clear p0
  have p0 := rD HS14
  go_wp2_with (refine stopAt 42 ?_)
  have lv15 := lV HS14
  refine namedStop fun W15 hW15 => ?_
  have HS15 := onS hW15 HS14.out.va.va
  have HNsrc15 := hide (Nx.onto hW15 ((HNsrc14.out.var (g := w14.heap.size) (by simp) _).var (g := w14.heap.size + 1) (by simp) _))
  have HNpat15 := hide (Nx.onto hW15 ((HNpat14.out.var (g := w14.heap.size) (by simp) _).var (g := w14.heap.size + 1) (by simp) _))
  have HNa15 := hide (Nx.onto hW15 ((HNa14.out.var (g := w14.heap.size) (by simp) _).var (g := w14.heap.size + 1) (by simp) _))
  have HNb15 := hide (Nx.onto hW15 ((HNb14.out.var (g := w14.heap.size) (by simp) _).var (g := w14.heap.size + 1) (by simp) _))
  clear HNsrc14 HNpat14 HNa14 HNb14
  clear hW15 HS14
  clear p0
  have p0 := rD HS15
  go_wp2_with (refine stopAt 47 ?_)
  refine namedStop fun W16 hW16 => ?_
  have HS16 := hide (St.onto hW16 (HS15.out.al _))
  have HRk16 := hide (show Px w W16 [w.heap.size, w.heap.size + 1, w.heap.size + 1 + 1, w2.heap.size, w6.heap.size, w6.heap.size + 1, w10.heap.size, w10.heap.size + 1, w14.heap.size, w14.heap.size + 1] (.slice (some ⟨W15.heap.size, 0, none⟩) 4 4) [d2, d6, d10, d14] [] [] from hW16 ▸ (Hx.lit (Rx.cons HNsrc15.out (Rx.cons HNpat15.out (Rx.cons HNa15.out (Rx.cons HNb15.out (Rx.nil))))) HS15.out rfl (by simp)))
  clear HNsrc15 HNpat15 HNa15 HNb15
  clear hW16 HS15
  clear p0
  have p0 := rD HS16
  cases hy : decide ((2 : Int) < (y : Int))
  case false =>
   have hy2 : ¬ (2 : Int) < (y : Int) := by simpa using hy
   clear hy
   go_wp2_with fail
   have lv18 := lV HS16
   refine namedWp fun W18 hW18 => ?_
   have HS18 := onS hW18 HS16.out.va
   have HRk18 := hide (Px.onto hW18 (HRk16.out.var (g := W16.heap.size) (by simp) _))
   clear HRk16
   clear hW18 HS16
   clear p0
   have HNn17 := hide (show Nx w W18 [w.heap.size, w.heap.size + 1, w.heap.size + 1 + 1, w2.heap.size, w6.heap.size, w6.heap.size + 1, w10.heap.size, w10.heap.size + 1, w14.heap.size, w14.heap.size + 1, W16.heap.size] (Nd.of x ⟨#[]⟩ [d2, d6, d10, d14]) (.agg #[.int .i64 x, .string ⟨#[]⟩, .slice (some ⟨W15.heap.size, 0, none⟩) 4 4]) from Px.node HRk18.out (by omega) (by decide))
   clear HRk18
   refine namedWp fun W19 hW19 => ?_
   have HS19 := hide (St.onto hW19 HS18.out)
   have HNn19 := hide (Nx.onto hW19 HNn17.out)
   clear HNn17
   clear hW19 HS18
   refine rgn HS19.out [8, 10] fun W20 hW20 => ?_
   have HS20 := hide (St.onto hW20 HS19.out.dr)
   have HNn20 := hide (Nx.onto hW20 HNn19.out.dr)
   clear HNn19
   clear hW20 HS19
   refine tK 0 (kS HS20.out [8, 10]) ?_
   refine tK 2 (kS HS20.out [8, 10]) ?_
   refine rY 1 fun K hK => ?_
   go_simp
   refine (need_any ⟨#[41]⟩ (hi.below HS20.out.below) (by omega)).mono ?_
   rintro e w22 ⟨⟨i21, bad21, rfl, hr21⟩, hb22⟩
   have HS22 := hide (HS20.out.call hb22)
   have HNn22 := hide (HNn20.out.call hb22)
   clear HNn20
   clear hb22 HS20
   obtain ⟨hi21, hl21, hp21, hj21⟩ := hr21.out (by omega)
   clear hr21
   go_simp
   refine onK hK (kS HS22.out [8, 10]) ?_
   clear hK K
   refine rY 3 fun K hK => ?_
   have p1 := rG HS22 1
   go_simp
   refine onW hK (kS (HS22.out.st3 1 rfl _ _ _) [8, 10]) fun W23 hW23 => ?_
   clear hK K
   have HS23 := onS hW23 (HS22.out.st3 1 rfl _ _ _)
   have HNn23 := hide (Nx.onto hW23 (HNn22.out.st3 (by simp) _ _ _))
   clear HNn22
   clear hW23 HS22
   clear p1
   refine rY 4 fun K hK => ?_
   have p2 := rG HS23 2
   go_simp
   refine onW hK (kS (HS23.out.st3 2 rfl _ _ _) [8, 10]) fun W24 hW24 => ?_
   clear hK K
   have HS24 := onS hW24 (HS23.out.st3 2 rfl _ _ _)
   have HNn24 := hide (Nx.onto hW24 (HNn23.out.st3 (by simp) _ _ _))
   clear HNn23
   clear hW24 HS23
   clear p2
   refine wpAnyH_done (by kernel_rfl) ?_ _
   go_wp2_with fail
   refine namedPost fun W25 hW25 => ?_
   have HS25 := hide (St.onto hW25 HS24.out)
   have HNn25 := hide (Nx.onto hW25 HNn24.out)
   clear HNn24
   clear hW25 HS24
   exact ended_pn rfl rfl rfl (HS25.out.get 1 rfl) (HS25.out.get 2 rfl) ⟨⟨_, _, _, _, _, _, _, _, rfl, HNn25.out.out, ⟨by omega, by omega, by omega⟩, by rw [cntOf, cntL_four]; omega⟩, HS25.out.below⟩
  have hy2 : (2 : Int) < (y : Int) := by simpa using hy
  clear hy
  go_wp2_with fail
  have lv26 := lV HS16
  refine named fun W26 hW26 => ?_
  have HS26 := onS hW26 HS16.out.va
  have HRk26 := hide (Px.onto hW26 (HRk16.out.var (g := W16.heap.size) (by simp) _))
  clear HRk16
  clear hW26 HS16
  clear p0
  refine (op_any ⟨#[59]⟩ (hi.below HS26.out.below)).mono ?_
  rintro e w27 ⟨rfl, hb27⟩
  have HS27 := hide (HS26.out.call hb27)
  have HRk27 := hide (HRk26.out.call hb27)
  clear HRk26
  clear hb27 HS26
  have p0 := rD HS27
  cases hq28 : opB (tokAt l i14 bad14) ⟨#[59]⟩
  case false =>
   clear hq28
   go_wp2_with fail
   refine namedWp fun W30 hW30 => ?_
   have HS30 := hide (St.onto hW30 HS27.out)
   have HRk30 := hide (Px.onto hW30 HRk27.out)
   clear HRk27
   clear hW30 HS27
   clear p0
   have HNn29 := hide (show Nx w W30 [w.heap.size, w.heap.size + 1, w.heap.size + 1 + 1, w2.heap.size, w6.heap.size, w6.heap.size + 1, w10.heap.size, w10.heap.size + 1, w14.heap.size, w14.heap.size + 1, W16.heap.size] (Nd.of x ⟨#[]⟩ [d2, d6, d10, d14]) (.agg #[.int .i64 x, .string ⟨#[]⟩, .slice (some ⟨W15.heap.size, 0, none⟩) 4 4]) from Px.node HRk30.out (by omega) (by decide))
   clear HRk30
   refine namedWp fun W31 hW31 => ?_
   have HS31 := hide (St.onto hW31 HS30.out)
   have HNn31 := hide (Nx.onto hW31 HNn29.out)
   clear HNn29
   clear hW31 HS30
   refine rgn HS31.out [8, 10] fun W32 hW32 => ?_
   have HS32 := hide (St.onto hW32 HS31.out.dr)
   have HNn32 := hide (Nx.onto hW32 HNn31.out.dr)
   clear HNn31
   clear hW32 HS31
   refine tK 0 (kS HS32.out [8, 10]) ?_
   refine tK 2 (kS HS32.out [8, 10]) ?_
   refine rY 1 fun K hK => ?_
   go_simp
   refine (need_any ⟨#[41]⟩ (hi.below HS32.out.below) (by omega)).mono ?_
   rintro e w34 ⟨⟨i33, bad33, rfl, hr33⟩, hb34⟩
   have HS34 := hide (HS32.out.call hb34)
   have HNn34 := hide (HNn32.out.call hb34)
   clear HNn32
   clear hb34 HS32
   obtain ⟨hi33, hl33, hp33, hj33⟩ := hr33.out (by omega)
   clear hr33
   go_simp
   refine onK hK (kS HS34.out [8, 10]) ?_
   clear hK K
   refine rY 3 fun K hK => ?_
   have p1 := rG HS34 1
   go_simp
   refine onW hK (kS (HS34.out.st3 1 rfl _ _ _) [8, 10]) fun W35 hW35 => ?_
   clear hK K
   have HS35 := onS hW35 (HS34.out.st3 1 rfl _ _ _)
   have HNn35 := hide (Nx.onto hW35 (HNn34.out.st3 (by simp) _ _ _))
   clear HNn34
   clear hW35 HS34
   clear p1
   refine rY 4 fun K hK => ?_
   have p2 := rG HS35 2
   go_simp
   refine onW hK (kS (HS35.out.st3 2 rfl _ _ _) [8, 10]) fun W36 hW36 => ?_
   clear hK K
   have HS36 := onS hW36 (HS35.out.st3 2 rfl _ _ _)
   have HNn36 := hide (Nx.onto hW36 (HNn35.out.st3 (by simp) _ _ _))
   clear HNn35
   clear hW36 HS35
   clear p2
   refine wpAnyH_done (by kernel_rfl) ?_ _
   go_wp2_with fail
   refine namedPost fun W37 hW37 => ?_
   have HS37 := hide (St.onto hW37 HS36.out)
   have HNn37 := hide (Nx.onto hW37 HNn36.out)
   clear HNn36
   clear hW37 HS36
   exact ended_pn rfl rfl rfl (HS37.out.get 1 rfl) (HS37.out.get 2 rfl) ⟨⟨_, _, _, _, _, _, _, _, rfl, HNn37.out.out, ⟨by omega, by omega, by omega⟩, by rw [cntOf, cntL_four]; omega⟩, HS37.out.below⟩
  obtain ⟨rfl, hlt38⟩ := opB_in hq28
  clear hq28
  go_wp2_with fail
  refine (next_in (n := l.length) ⟨_, _, _, rfl⟩ (by omega) hlen).mono ?_
  rintro e w40 ⟨⟨j39, rfl, hj39, hl39, hp39⟩, hb40⟩
  have HS40 := hide (HS27.out.call hb40)
  have HRk40 := hide (HRk27.out.call hb40)
  clear HRk27
  clear hb40 HS27
  clear p0
  have p0 := rD HS40
  go_wp2_with fail
  refine (HK.out.pipe (hi.below HS40.out.below) (by omega) (by omega)).mono ?_
  rintro e w41 ⟨⟨i41, bad41, d41, k41, s41, y41, m41, c41, rfl, hn41, ⟨hi41, hl41, hp41⟩, hc41⟩, hb41⟩
  have HS41 := hide (HS40.out.call hb41)
  have HRk41 := hide (Px.made HRk40.out hn41 hb41 HS40.out rfl)
  clear HRk40
  have HNc41 := hide (show Nx w w41 [w.heap.size, w.heap.size + 1, w.heap.size + 1 + 1, w2.heap.size, w6.heap.size, w6.heap.size + 1, w10.heap.size, w10.heap.size + 1, w14.heap.size, w14.heap.size + 1, W16.heap.size] _ _ from Nx.made hn41 HS40.out)
  clear hn41 hb41 HS40
  clear p0
  have p0 := rD HS41
  go_wp2_with (refine stopAt 61 ?_)
  have lv42 := lV HS41
  refine namedStop fun W42 hW42 => ?_
  have HS42 := onS hW42 (HS41.out.st3 8 rfl _ _ _).va.va
  have HNc42 := hide (Nx.onto hW42 (((HNc41.out.st3 (by simp) _ _ _).var (g := w41.heap.size) (by simp) _).var (g := w41.heap.size + 1) (by simp) _))
  have HRk42 := hide (Px.onto hW42 (((HRk41.out.st3 (by simp) _ _ _).var (g := w41.heap.size) (by simp) _).var (g := w41.heap.size + 1) (by simp) _))
  clear HNc41 HRk41
  clear hW42 HS41
  clear p0
  have p0 := rD HS42
  have lv43 := lV HS42
  have hSt43 : St w W42 [pe w.heap.size a l cap i2 bad2, pz (w.heap.size + 1), nz (w.heap.size + 1 + 1), ne w2.heap.size k2 s2 y2 m2 c2, pe w6.heap.size a l cap i6 bad6, ne (w6.heap.size + 1) k6 s6 y6 m6 c6, pe w10.heap.size a l cap i10 bad10, ne (w10.heap.size + 1) k10 s10 y10 m10 c10, pe w14.heap.size a l cap i41 bad41, ne (w14.heap.size + 1) k14 s14 y14 m14 c14, ne W16.heap.size x ⟨#[]⟩ (some ⟨W15.heap.size, 0, none⟩) 4 4, pe w41.heap.size a l cap i41 bad41, ne (w41.heap.size + 1) k41 s41 y41 m41 c41] := HS42.out
  have hPx43 : Px w W42 [w.heap.size, w.heap.size + 1, w.heap.size + 1 + 1, w2.heap.size, w6.heap.size, w6.heap.size + 1, w10.heap.size, w10.heap.size + 1, w14.heap.size, w14.heap.size + 1, W16.heap.size, w41.heap.size, w41.heap.size + 1] (.slice (some ⟨W15.heap.size, 0, none⟩) 4 4) [d2, d6, d10, d14] [d41] [.int .i64 k41, .string s41, .slice y41 m41 c41] := HRk42.out
  obtain ⟨v43, w43, hr43, hH43, hS43⟩ := hPx43.snoc hSt43 rfl (by simp only [List.length_cons, List.length_nil]; omega) (by simp)
  simp only [List.length_cons, List.length_nil, Nat.zero_add] at hr43
  obtain ⟨y43, n43, c43, rfl⟩ := hH43.form'
  clear hSt43 hPx43 HS42 HRk42 HNc42
  have HS43 := hide hS43
  have HRk43 := hide hH43
  clear hS43 hH43
  have rr0 := rD HS43
  go_wp2_with (at_builtin; refine wpList_append_run rfl _ _ (by rfl) (by rfl) (by rfl) (by rfl) hr43 ?_)
  clear hr43 p0
  go_wp2_with fail
  refine namedWp fun W45 hW45 => ?_
  have HS45 := onS hW45 (HS43.out.st 10 rfl 2 _)
  have HRk45 := hide (Px.onto hW45 (HRk43.out.st (by simp) _ _))
  clear HRk43
  clear hW45 HS43
  clear rr0
  have HNn44 := hide (show Nx w W45 [w.heap.size, w.heap.size + 1, w.heap.size + 1 + 1, w2.heap.size, w6.heap.size, w6.heap.size + 1, w10.heap.size, w10.heap.size + 1, w14.heap.size, w14.heap.size + 1, W16.heap.size, w41.heap.size, w41.heap.size + 1] (Nd.of x ⟨#[]⟩ ([d2, d6, d10, d14] ++ [d41])) (.agg #[.int .i64 x, .string ⟨#[]⟩, .slice y43 n43 c43]) from Px.node HRk45.out (by omega) (by decide))
  clear HRk45
  refine namedWp fun W46 hW46 => ?_
  have HS46 := hide (St.onto hW46 HS45.out)
  have HNn46 := hide (Nx.onto hW46 HNn44.out)
  clear HNn44
  clear hW46 HS45
  refine rgn HS46.out [8, 10] fun W47 hW47 => ?_
  have HS47 := hide (St.onto hW47 HS46.out.dr)
  have HNn47 := hide (Nx.onto hW47 HNn46.out.dr)
  clear HNn46
  clear hW47 HS46
  refine tK 0 (kS HS47.out [8, 10]) ?_
  refine tK 2 (kS HS47.out [8, 10]) ?_
  refine rY 1 fun K hK => ?_
  go_simp
  refine (need_any ⟨#[41]⟩ (hi.below HS47.out.below) (by omega)).mono ?_
  rintro e w49 ⟨⟨i48, bad48, rfl, hr48⟩, hb49⟩
  have HS49 := hide (HS47.out.call hb49)
  have HNn49 := hide (HNn47.out.call hb49)
  clear HNn47
  clear hb49 HS47
  obtain ⟨hi48, hl48, hp48, hj48⟩ := hr48.out (by omega)
  clear hr48
  go_simp
  refine onK hK (kS HS49.out [8, 10]) ?_
  clear hK K
  refine rY 3 fun K hK => ?_
  have p1 := rG HS49 1
  go_simp
  refine onW hK (kS (HS49.out.st3 1 rfl _ _ _) [8, 10]) fun W50 hW50 => ?_
  clear hK K
  have HS50 := onS hW50 (HS49.out.st3 1 rfl _ _ _)
  have HNn50 := hide (Nx.onto hW50 (HNn49.out.st3 (by simp) _ _ _))
  clear HNn49
  clear hW50 HS49
  clear p1
  refine rY 4 fun K hK => ?_
  have p2 := rG HS50 2
  go_simp
  refine onW hK (kS (HS50.out.st3 2 rfl _ _ _) [8, 10]) fun W51 hW51 => ?_
  clear hK K
  have HS51 := onS hW51 (HS50.out.st3 2 rfl _ _ _)
  have HNn51 := hide (Nx.onto hW51 (HNn50.out.st3 (by simp) _ _ _))
  clear HNn50
  clear hW51 HS50
  clear p2
  refine wpAnyH_done (by kernel_rfl) ?_ _
  go_wp2_with fail
  refine namedPost fun W52 hW52 => ?_
  have HS52 := hide (St.onto hW52 HS51.out)
  have HNn52 := hide (Nx.onto hW52 HNn51.out)
  clear HNn51
  clear hW52 HS51
  exact ended_pn rfl rfl rfl (HS52.out.get 1 rfl) (HS52.out.get 2 rfl) ⟨⟨_, _, _, _, _, _, _, _, rfl, HNn52.out.out, ⟨by omega, by omega, by omega⟩, by rw [cntOf, cntL_app, cntL_four, cntL_one]; omega⟩, HS52.out.below⟩
end Go.Proofs.YtacgmmpdichlmaaGreat
