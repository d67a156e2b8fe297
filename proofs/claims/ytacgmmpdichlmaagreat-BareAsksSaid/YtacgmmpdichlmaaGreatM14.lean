/-
  The reference's within: what stands in square brackets behind a term. Its condition: the parser's items lie in memory.
-/
import Derived.Test.YtacgmmpdichlmaaGreatM04
namespace Go.Proofs.YtacgmmpdichlmaaGreat
open Go.RowKit
attribute [local go_sem ↓] Go.wp_at_zero Go.wp_at_succ

set_option maxRecDepth 4000 in
set_option maxHeartbeats 4000000 in
theorem within_k {l : List Tk} {a : Option Addr} {cap m : Nat} (K : Kn l a cap m) {F : Nat → Prop} {d0 : Nd} {k0 : Int} {s0 dot : ByteArray} {a0 : Option Addr} {n0 c0 : Nat} {i : Nat} {w : World} (hi : Its w a l) (hlt : i < l.length) (hop : opB (tokAt l i false) ⟨#[91]⟩ = true) (hm : leftP l.length i false ≤ m)
    (hdot : dot.size ≤ 65536) (hN : IsNd w F d0 (.agg #[.int .i64 k0, .string s0, .slice a0 n0 c0])) (hF : ∀ b, F b → b < w.heap.size) : Calls Tryz.prog 113 #[.agg #[.slice a l.length cap, .int .i64 i, .bool false], .agg #[.int .i64 k0, .string s0, .slice a0 n0 c0], .string dot] w (WN F l a cap w i d0.count) := by
  have HK := hide K
  have hlen := hi.2.1
  have HN0 := hide (Ny.old hN hF)
  have Hop := hide hop
  have hat : i ≤ l.length := by omega
  clear K hN hF hop
  go_enter Tryz.func113, Tryz.ntmps113
  go_wp2_with fail
  refine named fun W1 hW1 => ?_
  have HS1 := onS hW1 (St.nil w).va.va.va.va
  have HNn1 := hide (Ny.onto hW1 ((((HN0.out.var (g := w.heap.size) (by simp) _).var (g := w.heap.size + 1) (by simp) _).var (g := w.heap.size + 1 + 1) (by simp) _).var (g := w.heap.size + 1 + 1 + 1) (by simp) _))
  clear HN0
  clear hW1
  refine (need_in (hi.below HS1.out.below) hlt Hop.out).mono ?_
  rintro e w2 ⟨⟨j1, rfl, hj1, hl1, hp1⟩, hb2⟩
  have HS2 := hide (HS1.out.call hb2)
  have HNn2 := hide (HNn1.out.call hb2)
  clear HNn1
  clear hb2 HS1
  have p0 := rD HS2
  go_wp2_with fail
  refine named fun W3 hW3 => ?_
  have HS3 := onS hW3 (HS2.out.st3 0 rfl _ _ _)
  have HNn3 := hide (Ny.onto hW3 (HNn2.out.st3 (by simp) _ _ _))
  clear HNn2
  clear hW3 HS2
  clear p0
  refine (op_any ⟨#[93]⟩ (hi.below HS3.out.below)).mono ?_
  rintro e w4 ⟨rfl, hb4⟩
  have HS4 := hide (HS3.out.call hb4)
  have HNn4 := hide (HNn3.out.call hb4)
  clear HNn3
  clear hb4 HS3
  have p0 := rD HS4
  cases hq5 : opB (tokAt l j1 false) ⟨#[93]⟩
  case true =>
   have hlt6 := (opB_in hq5).2
   clear hq5
   go_wp2_with fail
   refine namedWp fun W7 hW7 => ?_
   have HS7 := hide (St.onto hW7 HS4.out)
   have HNn7 := hide (Ny.onto hW7 HNn4.out)
   clear HNn4
   clear hW7 HS4
   clear p0
   refine rgn HS7.out [0, 1] fun W8 hW8 => ?_
   have HS8 := hide (St.onto hW8 HS7.out.dr)
   have HNn8 := hide (Ny.onto hW8 HNn7.out.dr)
   clear HNn7
   clear hW8 HS7
   refine tK 0 (kS HS8.out [0, 1]) ?_
   refine tK 2 (kS HS8.out [0, 1]) ?_
   refine tK 3 (kS HS8.out [0, 1]) ?_
   refine rY2 1 4 (fun K hK => ?_) (fun K hK => ?_)
   ·
    go_simp
    refine (next_in (n := l.length) ⟨_, _, _, rfl⟩ (by omega) hlen).mono ?_
    rintro e w10 ⟨⟨j9, rfl, hj9, hl9, hp9⟩, hb10⟩
    have HS10 := hide (HS8.out.call hb10)
    have HNn10 := hide (HNn8.out.call hb10)
    clear HNn8
    clear hb10 HS8
    go_simp
    refine onK hK (kS HS10.out [0, 1]) ?_
    clear hK K
    refine rY2 4 6 (fun K hK => ?_) (fun K hK => ?_)
    ·
     go_simp
     refine onW hK (kS (HS10.out.al _) [0, 1]) fun W11 hW11 => ?_
     clear hK K
     have HS11 := hide (St.onto hW11 (HS10.out.al _))
     have HNn11 := hide (Ny.onto hW11 (HNn10.out.al _))
     have HNres11 := hide (show Ny F w W11 [w.heap.size, w.heap.size + 1, w.heap.size + 1 + 1, w.heap.size + 1 + 1 + 1] (Nd.of 20 dot [d0]) (.agg #[.int .i64 20, .string dot, .slice (some ⟨w10.heap.size, 0, none⟩) 1 1]) from hW11 ▸ (Sy.join (Ry.lit (Ry.cons HNn10.out (Ry.nil)) HS10.out rfl (by simp [maxLen])) (by omega) (by simp only [maxLen]; omega)))
     clear HNn10
     clear hW11 HS10
     refine tK 5 (kS HS11.out [0, 1]) ?_
     refine rY 6 fun K hK => ?_
     have p2 := rG HS11 2
     go_simp
     refine onW hK (kS (HS11.out.st3 2 rfl _ _ _) [0, 1]) fun W12 hW12 => ?_
     clear hK K
     have HS12 := onS hW12 (HS11.out.st3 2 rfl _ _ _)
     have HNn12 := hide (Ny.onto hW12 (HNn11.out.st3 (by simp) _ _ _))
     have HNres12 := hide (Ny.onto hW12 (HNres11.out.st3 (by simp) _ _ _))
     clear HNn11 HNres11
     clear hW12 HS11
     clear p2
     refine rY 7 fun K hK => ?_
     have p3 := rG HS12 3
     go_simp
     refine onW hK (kS (HS12.out.st3 3 rfl _ _ _) [0, 1]) fun W13 hW13 => ?_
     clear hK K
     have HS13 := onS hW13 (HS12.out.st3 3 rfl _ _ _)
     have HNn13 := hide (Ny.onto hW13 (HNn12.out.st3 (by simp) _ _ _))
     have HNres13 := hide (Ny.onto hW13 (HNres12.out.st3 (by simp) _ _ _))
     clear HNn12 HNres12
     clear hW13 HS12
     clear p3
     refine wpAnyH_done (by kernel_rfl) ?_ _
     go_wp2_with fail
     refine namedPost fun W14 hW14 => ?_
     have HS14 := hide (St.onto hW14 HS13.out)
     have HNn14 := hide (Ny.onto hW14 HNn13.out)
     have HNres14 := hide (Ny.onto hW14 HNres13.out)
     clear HNn13 HNres13
     clear hW14 HS13
     exact ended_pn rfl rfl rfl (HS14.out.get 2 rfl) (HS14.out.get 3 rfl) ⟨⟨_, _, _, _, _, _, _, _, rfl, HNres14.out.out, ⟨by omega, by omega, by omega⟩, by rw [cnt1]; omega⟩, HS14.out.below⟩
    have p2 := rG HS10 2
    go_simp
    refine onW hK (kS (HS10.out.st3 2 rfl _ _ _) [0, 1]) fun W15 hW15 => ?_
    clear hK K
    have HS15 := onS hW15 (HS10.out.st3 2 rfl _ _ _)
    have HNn15 := hide (Ny.onto hW15 (HNn10.out.st3 (by simp) _ _ _))
    clear HNn10
    clear hW15 HS10
    clear p2
    refine rY 4 fun K hK => ?_
    go_simp
    refine onW hK (kS (HS15.out.al _) [0, 1]) fun W16 hW16 => ?_
    clear hK K
    have HS16 := hide (St.onto hW16 (HS15.out.al _))
    have HNn16 := hide (Ny.onto hW16 (HNn15.out.al _))
    have HNres16 := hide (show Ny F w W16 [w.heap.size, w.heap.size + 1, w.heap.size + 1 + 1, w.heap.size + 1 + 1 + 1] (Nd.of 20 dot [d0]) (.agg #[.int .i64 20, .string dot, .slice (some ⟨W15.heap.size, 0, none⟩) 1 1]) from hW16 ▸ (Sy.join (Ry.lit (Ry.cons HNn15.out (Ry.nil)) HS15.out rfl (by simp [maxLen])) (by omega) (by simp only [maxLen]; omega)))
    clear HNn15
    clear hW16 HS15
    refine tK 5 (kS HS16.out [0, 1]) ?_
    refine rY 7 fun K hK => ?_
    have p3 := rG HS16 3
    go_simp
    refine onW hK (kS (HS16.out.st3 3 rfl _ _ _) [0, 1]) fun W17 hW17 => ?_
    clear hK K
    have HS17 := onS hW17 (HS16.out.st3 3 rfl _ _ _)
    have HNn17 := hide (Ny.onto hW17 (HNn16.out.st3 (by simp) _ _ _))
    have HNres17 := hide (Ny.onto hW17 (HNres16.out.st3 (by simp) _ _ _))
    clear HNn16 HNres16
    clear hW17 HS16
    clear p3
    refine wpAnyH_done (by kernel_rfl) ?_ _
    go_wp2_with fail
    refine namedPost fun W18 hW18 => ?_
    have HS18 := hide (St.onto hW18 HS17.out)
    have HNn18 := hide (Ny.onto hW18 HNn17.out)
    have HNres18 := hide (Ny.onto hW18 HNres17.out)
    clear HNn17 HNres17
    clear hW18 HS17
    exact ended_pn rfl rfl rfl (HS18.out.get 2 rfl) (HS18.out.get 3 rfl) ⟨⟨_, _, _, _, _, _, _, _, rfl, HNres18.out.out, ⟨by omega, by omega, by omega⟩, by rw [cnt1]; omega⟩, HS18.out.below⟩
   go_simp
   refine onW hK (kS (HS8.out.al _) [0, 1]) fun W19 hW19 => ?_
   clear hK K
   have HS19 := hide (St.onto hW19 (HS8.out.al _))
   have HNn19 := hide (Ny.onto hW19 (HNn8.out.al _))
   have HNres19 := hide (show Ny F w W19 [w.heap.size, w.heap.size + 1, w.heap.size + 1 + 1, w.heap.size + 1 + 1 + 1] (Nd.of 20 dot [d0]) (.agg #[.int .i64 20, .string dot, .slice (some ⟨W8.heap.size, 0, none⟩) 1 1]) from hW19 ▸ (Sy.join (Ry.lit (Ry.cons HNn8.out (Ry.nil)) HS8.out rfl (by simp [maxLen])) (by omega) (by simp only [maxLen]; omega)))
   clear HNn8
   clear hW19 HS8
   refine tK 5 (kS HS19.out [0, 1]) ?_
   refine rY 1 fun K hK => ?_
   go_simp
   refine (next_in (n := l.length) ⟨_, _, _, rfl⟩ (by omega) hlen).mono ?_
   rintro e w21 ⟨⟨j20, rfl, hj20, hl20, hp20⟩, hb21⟩
   have HS21 := hide (HS19.out.call hb21)
   have HNn21 := hide (HNn19.out.call hb21)
   clear HNn19
   have HNres21 := hide (HNres19.out.call hb21)
   clear HNres19
   clear hb21 HS19
   go_simp
   refine onK hK (kS HS21.out [0, 1]) ?_
   clear hK K
   refine rY 6 fun K hK => ?_
   have p2 := rG HS21 2
   go_simp
   refine onW hK (kS (HS21.out.st3 2 rfl _ _ _) [0, 1]) fun W22 hW22 => ?_
   clear hK K
   have HS22 := onS hW22 (HS21.out.st3 2 rfl _ _ _)
   have HNn22 := hide (Ny.onto hW22 (HNn21.out.st3 (by simp) _ _ _))
   have HNres22 := hide (Ny.onto hW22 (HNres21.out.st3 (by simp) _ _ _))
   clear HNn21 HNres21
   clear hW22 HS21
   clear p2
   refine rY 7 fun K hK => ?_
   have p3 := rG HS22 3
   go_simp
   refine onW hK (kS (HS22.out.st3 3 rfl _ _ _) [0, 1]) fun W23 hW23 => ?_
   clear hK K
   have HS23 := onS hW23 (HS22.out.st3 3 rfl _ _ _)
   have HNn23 := hide (Ny.onto hW23 (HNn22.out.st3 (by simp) _ _ _))
   have HNres23 := hide (Ny.onto hW23 (HNres22.out.st3 (by simp) _ _ _))
   clear HNn22 HNres22
   clear hW23 HS22
   clear p3
   refine wpAnyH_done (by kernel_rfl) ?_ _
   go_wp2_with fail
   refine namedPost fun W24 hW24 => ?_
   have HS24 := hide (St.onto hW24 HS23.out)
   have HNn24 := hide (Ny.onto hW24 HNn23.out)
   have HNres24 := hide (Ny.onto hW24 HNres23.out)
   clear HNn23 HNres23
   clear hW24 HS23
   exact ended_pn rfl rfl rfl (HS24.out.get 2 rfl) (HS24.out.get 3 rfl) ⟨⟨_, _, _, _, _, _, _, _, rfl, HNres24.out.out, ⟨by omega, by omega, by omega⟩, by rw [cnt1]; omega⟩, HS24.out.below⟩
  clear hq5
  go_wp2_with fail
  have lv25 := lV HS4
  refine named fun W25 hW25 => ?_
  have HS25 := onS hW25 HS4.out.va.va
  have HNn25 := hide (Ny.onto hW25 ((HNn4.out.var (g := w4.heap.size) (by simp) _).var (g := w4.heap.size + 1) (by simp) _))
  clear HNn4
  clear hW25 HS4
  clear p0
  have HNfrom26 := hide (show Ny F w W25 [w.heap.size, w.heap.size + 1, w.heap.size + 1 + 1, w.heap.size + 1 + 1 + 1, w4.heap.size, w4.heap.size + 1] (Nd.mk 0 ⟨#[]⟩ .nil) (.agg #[.int .i64 0, .string ⟨#[]⟩, .slice none 0 0]) from Ny.leaf HS25.out (by omega) (by decide))
  have HNto27 := hide (show Ny F w W25 [w.heap.size, w.heap.size + 1, w.heap.size + 1 + 1, w.heap.size + 1 + 1 + 1, w4.heap.size, w4.heap.size + 1] (Nd.mk 0 ⟨#[]⟩ .nil) (.agg #[.int .i64 0, .string ⟨#[]⟩, .slice none 0 0]) from Ny.leaf HS25.out (by omega) (by decide))
  refine (op_any ⟨#[58]⟩ (hi.below HS25.out.below)).mono ?_
  rintro e w28 ⟨rfl, hb28⟩
  have HS28 := hide (HS25.out.call hb28)
  have HNn28 := hide (HNn25.out.call hb28)
  clear HNn25
  have HNfrom28 := hide (HNfrom26.out.call hb28)
  clear HNfrom26
  have HNto28 := hide (HNto27.out.call hb28)
  clear HNto27
  clear hb28 HS25
  have p0 := rD HS28
  cases hq29 : opB (tokAt l j1 false) ⟨#[58]⟩
  case true =>
   clear hq29
   go_wp2_with fail
   refine (need_any ⟨#[58]⟩ (hi.below HS28.out.below) (by omega)).mono ?_
   rintro e w31 ⟨⟨i30, bad30, rfl, hr30⟩, hb31⟩
   have HS31 := hide (HS28.out.call hb31)
   have HNn31 := hide (HNn28.out.call hb31)
   clear HNn28
   have HNfrom31 := hide (HNfrom28.out.call hb31)
   clear HNfrom28
   have HNto31 := hide (HNto28.out.call hb31)
   clear HNto28
   clear hb31 HS28
   clear p0
   obtain ⟨hi30, hl30, hp30, hj30⟩ := hr30.out (by omega)
   have hq30 := hr30.less (by omega)
   clear hr30
   have p0 := rD HS31
   go_wp2_with (refine stopAt 47 ?_)
   refine namedStop fun W32 hW32 => ?_
   have HS32 := onS hW32 (HS31.out.st3 0 rfl _ _ _)
   have HNn32 := hide (Ny.onto hW32 (HNn31.out.st3 (by simp) _ _ _))
   have HNfrom32 := hide (Ny.onto hW32 (HNfrom31.out.st3 (by simp) _ _ _))
   have HNto32 := hide (Ny.onto hW32 (HNto31.out.st3 (by simp) _ _ _))
   clear HNn31 HNfrom31 HNto31
   clear hW32 HS31
   clear p0
   have p0 := rD HS32
   go_wp2_with fail
   refine (HK.out.pipe (hi.below HS32.out.below) (by omega) (by omega)).mono ?_
   rintro e w33 ⟨⟨i33, bad33, d33, k33, s33, y33, m33, c33, rfl, hn33, ⟨hi33, hl33, hp33⟩, hc33⟩, hb33⟩
   have HS33 := hide (HS32.out.call hb33)
   have HNn33 := hide (HNn32.out.call hb33)
   clear HNn32
   have HNfrom33 := hide (HNfrom32.out.call hb33)
   clear HNfrom32
   have HNto33 := hide (HNto32.out.call hb33)
   clear HNto32
   have HNx33 := hide (show Ny F w w33 [w.heap.size, w.heap.size + 1, w.heap.size + 1 + 1, w.heap.size + 1 + 1 + 1, w4.heap.size, w4.heap.size + 1] _ _ from Ny.made hn33 HS32.out hb33)
   clear hn33 hb33 HS32
   clear p0
   have p0 := rD HS33
   go_wp2_with (refine stopAt 61 ?_)
   have lv34 := lV HS33
   refine namedStop fun W34 hW34 => ?_
   have HS34 := onS hW34 (HS33.out.st3 0 rfl _ _ _).va.va
   have HNn34 := hide (Ny.onto hW34 (((HNn33.out.st3 (by simp) _ _ _).var (g := w33.heap.size) (by simp) _).var (g := w33.heap.size + 1) (by simp) _))
   have HNfrom34 := hide (Ny.onto hW34 (((HNfrom33.out.st3 (by simp) _ _ _).var (g := w33.heap.size) (by simp) _).var (g := w33.heap.size + 1) (by simp) _))
   have HNx34 := hide (Ny.onto hW34 (((HNx33.out.st3 (by simp) _ _ _).var (g := w33.heap.size) (by simp) _).var (g := w33.heap.size + 1) (by simp) _))
   clear HNn33 HNfrom33 HNx33
   clear hW34 HS33
   clear p0
   have p0 := rD HS34
   go_wp2_with fail
   refine namedWp fun W35 hW35 => ?_
   have HS35 := onS hW35 (HS34.out.st3 5 rfl _ _ _)
   have HNn35 := hide (Ny.onto hW35 (HNn34.out.st3 (by simp) _ _ _))
   have HNfrom35 := hide (Ny.onto hW35 (HNfrom34.out.st3 (by simp) _ _ _))
   have HNto35 := hide (Ny.onto hW35 (HNx34.out.st3 (by simp) _ _ _))
   clear HNn34 HNfrom34 HNx34
   clear hW35 HS34
   clear p0
   refine rgn HS35.out [0, 1, 4, 5] fun W36 hW36 => ?_
   have HS36 := hide (St.onto hW36 HS35.out.dr)
   have HNn36 := hide (Ny.onto hW36 HNn35.out.dr)
   have HNfrom36 := hide (Ny.onto hW36 HNfrom35.out.dr)
   have HNto36 := hide (Ny.onto hW36 HNto35.out.dr)
   clear HNn35 HNfrom35 HNto35
   clear hW36 HS35
   refine tK 0 (kS HS36.out [0, 1, 4, 5]) ?_
   refine tK 2 (kS HS36.out [0, 1, 4, 5]) ?_
   refine tK 3 (kS HS36.out [0, 1, 4, 5]) ?_
   refine tK 4 (kS HS36.out [0, 1, 4, 5]) ?_
   refine tK 5 (kS HS36.out [0, 1, 4, 5]) ?_
   refine rY2 1 6 (fun K hK => ?_) (fun K hK => ?_)
   ·
    go_simp
    refine (need_any ⟨#[93]⟩ (hi.below HS36.out.below) (by omega)).mono ?_
    rintro e w38 ⟨⟨i37, bad37, rfl, hr37⟩, hb38⟩
    have HS38 := hide (HS36.out.call hb38)
    have HNn38 := hide (HNn36.out.call hb38)
    clear HNn36
    have HNfrom38 := hide (HNfrom36.out.call hb38)
    clear HNfrom36
    have HNto38 := hide (HNto36.out.call hb38)
    clear HNto36
    clear hb38 HS36
    obtain ⟨hi37, hl37, hp37, hj37⟩ := hr37.out (by omega)
    clear hr37
    go_simp
    refine onK hK (kS HS38.out [0, 1, 4, 5]) ?_
    clear hK K
    refine rY2 6 8 (fun K hK => ?_) (fun K hK => ?_)
    ·
     go_simp
     refine onW hK (kS (HS38.out.al _) [0, 1, 4, 5]) fun W39 hW39 => ?_
     clear hK K
     have HS39 := hide (St.onto hW39 (HS38.out.al _))
     have HNn39 := hide (Ny.onto hW39 (HNn38.out.al _))
     have HNfrom39 := hide (Ny.onto hW39 (HNfrom38.out.al _))
     have HNto39 := hide (Ny.onto hW39 (HNto38.out.al _))
     have HNres39 := hide (show Ny F w W39 [w.heap.size, w.heap.size + 1, w.heap.size + 1 + 1, w.heap.size + 1 + 1 + 1, w4.heap.size, w4.heap.size + 1, w33.heap.size, w33.heap.size + 1] (Nd.of 19 dot [d0, (Nd.mk 0 ⟨#[]⟩ .nil), d33]) (.agg #[.int .i64 19, .string dot, .slice (some ⟨w38.heap.size, 0, none⟩) 3 3]) from hW39 ▸ (Sy.join (Ry.lit (Ry.cons HNn38.out (Ry.cons HNfrom38.out (Ry.cons HNto38.out (Ry.nil)))) HS38.out rfl (by simp [maxLen])) (by omega) (by simp only [maxLen]; omega)))
     clear HNn38 HNfrom38 HNto38
     clear hW39 HS38
     refine tK 7 (kS HS39.out [0, 1, 4, 5]) ?_
     refine rY 8 fun K hK => ?_
     have p2 := rG HS39 2
     go_simp
     refine onW hK (kS (HS39.out.st3 2 rfl _ _ _) [0, 1, 4, 5]) fun W40 hW40 => ?_
     clear hK K
     have HS40 := onS hW40 (HS39.out.st3 2 rfl _ _ _)
     have HNn40 := hide (Ny.onto hW40 (HNn39.out.st3 (by simp) _ _ _))
     have HNfrom40 := hide (Ny.onto hW40 (HNfrom39.out.st3 (by simp) _ _ _))
     have HNto40 := hide (Ny.onto hW40 (HNto39.out.st3 (by simp) _ _ _))
     have HNres40 := hide (Ny.onto hW40 (HNres39.out.st3 (by simp) _ _ _))
     clear HNn39 HNfrom39 HNto39 HNres39
     clear hW40 HS39
     clear p2
     refine rY 9 fun K hK => ?_
     have p3 := rG HS40 3
     go_simp
     refine onW hK (kS (HS40.out.st3 3 rfl _ _ _) [0, 1, 4, 5]) fun W41 hW41 => ?_
     clear hK K
     have HS41 := onS hW41 (HS40.out.st3 3 rfl _ _ _)
     have HNn41 := hide (Ny.onto hW41 (HNn40.out.st3 (by simp) _ _ _))
     have HNfrom41 := hide (Ny.onto hW41 (HNfrom40.out.st3 (by simp) _ _ _))
     have HNto41 := hide (Ny.onto hW41 (HNto40.out.st3 (by simp) _ _ _))
     have HNres41 := hide (Ny.onto hW41 (HNres40.out.st3 (by simp) _ _ _))
     clear HNn40 HNfrom40 HNto40 HNres40
     clear hW41 HS40
     clear p3
     refine wpAnyH_done (by kernel_rfl) ?_ _
     go_wp2_with fail
     refine namedPost fun W42 hW42 => ?_
     have HS42 := hide (St.onto hW42 HS41.out)
     have HNn42 := hide (Ny.onto hW42 HNn41.out)
     have HNfrom42 := hide (Ny.onto hW42 HNfrom41.out)
     have HNto42 := hide (Ny.onto hW42 HNto41.out)
     have HNres42 := hide (Ny.onto hW42 HNres41.out)
     clear HNn41 HNfrom41 HNto41 HNres41
     clear hW42 HS41
     exact ended_pn rfl rfl rfl (HS42.out.get 2 rfl) (HS42.out.get 3 rfl) ⟨⟨_, _, _, _, _, _, _, _, rfl, HNres42.out.out, ⟨by omega, by omega, by omega⟩, by rw [cnt3, cntLeaf]; omega⟩, HS42.out.below⟩
    have p2 := rG HS38 2
    go_simp
    refine onW hK (kS (HS38.out.st3 2 rfl _ _ _) [0, 1, 4, 5]) fun W43 hW43 => ?_
    clear hK K
    have HS43 := onS hW43 (HS38.out.st3 2 rfl _ _ _)
    have HNn43 := hide (Ny.onto hW43 (HNn38.out.st3 (by simp) _ _ _))
    have HNfrom43 := hide (Ny.onto hW43 (HNfrom38.out.st3 (by simp) _ _ _))
    have HNto43 := hide (Ny.onto hW43 (HNto38.out.st3 (by simp) _ _ _))
    clear HNn38 HNfrom38 HNto38
    clear hW43 HS38
    clear p2
    refine rY 6 fun K hK => ?_
    go_simp
    refine onW hK (kS (HS43.out.al _) [0, 1, 4, 5]) fun W44 hW44 => ?_
    clear hK K
    have HS44 := hide (St.onto hW44 (HS43.out.al _))
    have HNn44 := hide (Ny.onto hW44 (HNn43.out.al _))
    have HNfrom44 := hide (Ny.onto hW44 (HNfrom43.out.al _))
    have HNto44 := hide (Ny.onto hW44 (HNto43.out.al _))
    have HNres44 := hide (show Ny F w W44 [w.heap.size, w.heap.size + 1, w.heap.size + 1 + 1, w.heap.size + 1 + 1 + 1, w4.heap.size, w4.heap.size + 1, w33.heap.size, w33.heap.size + 1] (Nd.of 19 dot [d0, (Nd.mk 0 ⟨#[]⟩ .nil), d33]) (.agg #[.int .i64 19, .string dot, .slice (some ⟨W43.heap.size, 0, none⟩) 3 3]) from hW44 ▸ (Sy.join (Ry.lit (Ry.cons HNn43.out (Ry.cons HNfrom43.out (Ry.cons HNto43.out (Ry.nil)))) HS43.out rfl (by simp [maxLen])) (by omega) (by simp only [maxLen]; omega)))
    clear HNn43 HNfrom43 HNto43
    clear hW44 HS43
    refine tK 7 (kS HS44.out [0, 1, 4, 5]) ?_
    refine rY 9 fun K hK => ?_
    have p3 := rG HS44 3
    go_simp
    refine onW hK (kS (HS44.out.st3 3 rfl _ _ _) [0, 1, 4, 5]) fun W45 hW45 => ?_
    clear hK K
    have HS45 := onS hW45 (HS44.out.st3 3 rfl _ _ _)
    have HNn45 := hide (Ny.onto hW45 (HNn44.out.st3 (by simp) _ _ _))
    have HNfrom45 := hide (Ny.onto hW45 (HNfrom44.out.st3 (by simp) _ _ _))
    have HNto45 := hide (Ny.onto hW45 (HNto44.out.st3 (by simp) _ _ _))
    have HNres45 := hide (Ny.onto hW45 (HNres44.out.st3 (by simp) _ _ _))
    clear HNn44 HNfrom44 HNto44 HNres44
    clear hW45 HS44
    clear p3
    refine wpAnyH_done (by kernel_rfl) ?_ _
    go_wp2_with fail
    refine namedPost fun W46 hW46 => ?_
    have HS46 := hide (St.onto hW46 HS45.out)
    have HNn46 := hide (Ny.onto hW46 HNn45.out)
    have HNfrom46 := hide (Ny.onto hW46 HNfrom45.out)
    have HNto46 := hide (Ny.onto hW46 HNto45.out)
    have HNres46 := hide (Ny.onto hW46 HNres45.out)
    clear HNn45 HNfrom45 HNto45 HNres45
    clear hW46 HS45
    exact ended_pn rfl rfl rfl (HS46.out.get 2 rfl) (HS46.out.get 3 rfl) ⟨⟨_, _, _, _, _, _, _, _, rfl, HNres46.out.out, ⟨by omega, by omega, by omega⟩, by rw [cnt3, cntLeaf]; omega⟩, HS46.out.below⟩
   go_simp
   refine onW hK (kS (HS36.out.al _) [0, 1, 4, 5]) fun W47 hW47 => ?_
   clear hK K
   have HS47 := hide (St.onto hW47 (HS36.out.al _))
   have HNn47 := hide (Ny.onto hW47 (HNn36.out.al _))
   have HNfrom47 := hide (Ny.onto hW47 (HNfrom36.out.al _))
   have HNto47 := hide (Ny.onto hW47 (HNto36.out.al _))
   have HNres47 := hide (show Ny F w W47 [w.heap.size, w.heap.size + 1, w.heap.size + 1 + 1, w.heap.size + 1 + 1 + 1, w4.heap.size, w4.heap.size + 1, w33.heap.size, w33.heap.size + 1] (Nd.of 19 dot [d0, (Nd.mk 0 ⟨#[]⟩ .nil), d33]) (.agg #[.int .i64 19, .string dot, .slice (some ⟨W36.heap.size, 0, none⟩) 3 3]) from hW47 ▸ (Sy.join (Ry.lit (Ry.cons HNn36.out (Ry.cons HNfrom36.out (Ry.cons HNto36.out (Ry.nil)))) HS36.out rfl (by simp [maxLen])) (by omega) (by simp only [maxLen]; omega)))
   clear HNn36 HNfrom36 HNto36
   clear hW47 HS36
   refine tK 7 (kS HS47.out [0, 1, 4, 5]) ?_
   refine rY 1 fun K hK => ?_
   go_simp
   refine (need_any ⟨#[93]⟩ (hi.below HS47.out.below) (by omega)).mono ?_
   rintro e w49 ⟨⟨i48, bad48, rfl, hr48⟩, hb49⟩
   have HS49 := hide (HS47.out.call hb49)
   have HNn49 := hide (HNn47.out.call hb49)
   clear HNn47
   have HNfrom49 := hide (HNfrom47.out.call hb49)
   clear HNfrom47
   have HNto49 := hide (HNto47.out.call hb49)
   clear HNto47
   have HNres49 := hide (HNres47.out.call hb49)
   clear HNres47
   clear hb49 HS47
   obtain ⟨hi48, hl48, hp48, hj48⟩ := hr48.out (by omega)
   clear hr48
   go_simp
   refine onK hK (kS HS49.out [0, 1, 4, 5]) ?_
   clear hK K
   refine rY 8 fun K hK => ?_
   have p2 := rG HS49 2
   go_simp
   refine onW hK (kS (HS49.out.st3 2 rfl _ _ _) [0, 1, 4, 5]) fun W50 hW50 => ?_
   clear hK K
   have HS50 := onS hW50 (HS49.out.st3 2 rfl _ _ _)
   have HNn50 := hide (Ny.onto hW50 (HNn49.out.st3 (by simp) _ _ _))
   have HNfrom50 := hide (Ny.onto hW50 (HNfrom49.out.st3 (by simp) _ _ _))
   have HNto50 := hide (Ny.onto hW50 (HNto49.out.st3 (by simp) _ _ _))
   have HNres50 := hide (Ny.onto hW50 (HNres49.out.st3 (by simp) _ _ _))
   clear HNn49 HNfrom49 HNto49 HNres49
   clear hW50 HS49
   clear p2
   refine rY 9 fun K hK => ?_
   have p3 := rG HS50 3
   go_simp
   refine onW hK (kS (HS50.out.st3 3 rfl _ _ _) [0, 1, 4, 5]) fun W51 hW51 => ?_
   clear hK K
   have HS51 := onS hW51 (HS50.out.st3 3 rfl _ _ _)
   have HNn51 := hide (Ny.onto hW51 (HNn50.out.st3 (by simp) _ _ _))
   have HNfrom51 := hide (Ny.onto hW51 (HNfrom50.out.st3 (by simp) _ _ _))
   have HNto51 := hide (Ny.onto hW51 (HNto50.out.st3 (by simp) _ _ _))
   have HNres51 := hide (Ny.onto hW51 (HNres50.out.st3 (by simp) _ _ _))
   clear HNn50 HNfrom50 HNto50 HNres50
   clear hW51 HS50
   clear p3
   refine wpAnyH_done (by kernel_rfl) ?_ _
   go_wp2_with fail
   refine namedPost fun W52 hW52 => ?_
   have HS52 := hide (St.onto hW52 HS51.out)
   have HNn52 := hide (Ny.onto hW52 HNn51.out)
   have HNfrom52 := hide (Ny.onto hW52 HNfrom51.out)
   have HNto52 := hide (Ny.onto hW52 HNto51.out)
   have HNres52 := hide (Ny.onto hW52 HNres51.out)
   clear HNn51 HNfrom51 HNto51 HNres51
   clear hW52 HS51
   exact ended_pn rfl rfl rfl (HS52.out.get 2 rfl) (HS52.out.get 3 rfl) ⟨⟨_, _, _, _, _, _, _, _, rfl, HNres52.out.out, ⟨by omega, by omega, by omega⟩, by rw [cnt3, cntLeaf]; omega⟩, HS52.out.below⟩
  clear hq29
  go_wp2_with fail
  refine (HK.out.pipe (hi.below HS28.out.below) (by omega) (by omega)).mono ?_
  rintro e w53 ⟨⟨i53, bad53, d53, k53, s53, y53, m53, c53, rfl, hn53, ⟨hi53, hl53, hp53⟩, hc53⟩, hb53⟩
  have HS53 := hide (HS28.out.call hb53)
  have HNn53 := hide (HNn28.out.call hb53)
  clear HNn28
  have HNfrom53 := hide (HNfrom28.out.call hb53)
  clear HNfrom28
  have HNto53 := hide (HNto28.out.call hb53)
  clear HNto28
  have HNx53 := hide (show Ny F w w53 [w.heap.size, w.heap.size + 1, w.heap.size + 1 + 1, w.heap.size + 1 + 1 + 1, w4.heap.size, w4.heap.size + 1] _ _ from Ny.made hn53 HS28.out hb53)
  clear hn53 hb53 HS28
  clear p0
  have p0 := rD HS53
  go_wp2_with (refine stopAt 35 ?_)
  have lv54 := lV HS53
  refine namedStop fun W54 hW54 => ?_
  have HS54 := onS hW54 (HS53.out.st3 0 rfl _ _ _).va.va
  have HNn54 := hide (Ny.onto hW54 (((HNn53.out.st3 (by simp) _ _ _).var (g := w53.heap.size) (by simp) _).var (g := w53.heap.size + 1) (by simp) _))
  have HNto54 := hide (Ny.onto hW54 (((HNto53.out.st3 (by simp) _ _ _).var (g := w53.heap.size) (by simp) _).var (g := w53.heap.size + 1) (by simp) _))
  have HNx54 := hide (Ny.onto hW54 (((HNx53.out.st3 (by simp) _ _ _).var (g := w53.heap.size) (by simp) _).var (g := w53.heap.size + 1) (by simp) _))
  clear HNn53 HNto53 HNx53
  clear hW54 HS53
  clear p0
  have p0 := rD HS54
  go_wp2_with fail
  refine named fun W55 hW55 => ?_
  have HS55 := onS hW55 (HS54.out.st3 4 rfl _ _ _)
  have HNn55 := hide (Ny.onto hW55 (HNn54.out.st3 (by simp) _ _ _))
  have HNto55 := hide (Ny.onto hW55 (HNto54.out.st3 (by simp) _ _ _))
  have HNfrom55 := hide (Ny.onto hW55 (HNx54.out.st3 (by simp) _ _ _))
  clear HNn54 HNto54 HNx54
  clear hW55 HS54
  clear p0
  refine (op_any ⟨#[93]⟩ (hi.below HS55.out.below)).mono ?_
  rintro e w56 ⟨rfl, hb56⟩
  have HS56 := hide (HS55.out.call hb56)
  have HNn56 := hide (HNn55.out.call hb56)
  clear HNn55
  have HNto56 := hide (HNto55.out.call hb56)
  clear HNto55
  have HNfrom56 := hide (HNfrom55.out.call hb56)
  clear HNfrom55
  clear hb56 HS55
  have p0 := rD HS56
  cases hq57 : opB (tokAt l i53 bad53) ⟨#[93]⟩
  case true =>
   obtain ⟨rfl, hlt58⟩ := opB_in hq57
   clear hq57
   go_wp2_with fail
   refine namedWp fun W59 hW59 => ?_
   have HS59 := hide (St.onto hW59 HS56.out)
   have HNn59 := hide (Ny.onto hW59 HNn56.out)
   have HNto59 := hide (Ny.onto hW59 HNto56.out)
   have HNfrom59 := hide (Ny.onto hW59 HNfrom56.out)
   clear HNn56 HNto56 HNfrom56
   clear hW59 HS56
   clear p0
   refine rgn HS59.out [0, 1, 4] fun W60 hW60 => ?_
   have HS60 := hide (St.onto hW60 HS59.out.dr)
   have HNn60 := hide (Ny.onto hW60 HNn59.out.dr)
   have HNto60 := hide (Ny.onto hW60 HNto59.out.dr)
   have HNfrom60 := hide (Ny.onto hW60 HNfrom59.out.dr)
   clear HNn59 HNto59 HNfrom59
   clear hW60 HS59
   refine tK 0 (kS HS60.out [0, 1, 4]) ?_
   refine tK 2 (kS HS60.out [0, 1, 4]) ?_
   refine tK 3 (kS HS60.out [0, 1, 4]) ?_
   refine tK 4 (kS HS60.out [0, 1, 4]) ?_
   refine rY2 1 5 (fun K hK => ?_) (fun K hK => ?_)
   ·
    go_simp
    refine (next_in (n := l.length) ⟨_, _, _, rfl⟩ (by omega) hlen).mono ?_
    rintro e w62 ⟨⟨j61, rfl, hj61, hl61, hp61⟩, hb62⟩
    have HS62 := hide (HS60.out.call hb62)
    have HNn62 := hide (HNn60.out.call hb62)
    clear HNn60
    have HNto62 := hide (HNto60.out.call hb62)
    clear HNto60
    have HNfrom62 := hide (HNfrom60.out.call hb62)
    clear HNfrom60
    clear hb62 HS60
    go_simp
    refine onK hK (kS HS62.out [0, 1, 4]) ?_
    clear hK K
    refine rY2 5 7 (fun K hK => ?_) (fun K hK => ?_)
    ·
     go_simp
     refine onW hK (kS (HS62.out.al _) [0, 1, 4]) fun W63 hW63 => ?_
     clear hK K
     have HS63 := hide (St.onto hW63 (HS62.out.al _))
     have HNn63 := hide (Ny.onto hW63 (HNn62.out.al _))
     have HNto63 := hide (Ny.onto hW63 (HNto62.out.al _))
     have HNfrom63 := hide (Ny.onto hW63 (HNfrom62.out.al _))
     have HNres63 := hide (show Ny F w W63 [w.heap.size, w.heap.size + 1, w.heap.size + 1 + 1, w.heap.size + 1 + 1 + 1, w4.heap.size, w4.heap.size + 1, w53.heap.size, w53.heap.size + 1] (Nd.of 18 dot [d0, d53]) (.agg #[.int .i64 18, .string dot, .slice (some ⟨w62.heap.size, 0, none⟩) 2 2]) from hW63 ▸ (Sy.join (Ry.lit (Ry.cons HNn62.out (Ry.cons HNfrom62.out (Ry.nil))) HS62.out rfl (by simp [maxLen])) (by omega) (by simp only [maxLen]; omega)))
     clear HNn62 HNto62 HNfrom62
     clear hW63 HS62
     refine tK 6 (kS HS63.out [0, 1, 4]) ?_
     refine rY 7 fun K hK => ?_
     have p2 := rG HS63 2
     go_simp
     refine onW hK (kS (HS63.out.st3 2 rfl _ _ _) [0, 1, 4]) fun W64 hW64 => ?_
     clear hK K
     have HS64 := onS hW64 (HS63.out.st3 2 rfl _ _ _)
     have HNn64 := hide (Ny.onto hW64 (HNn63.out.st3 (by simp) _ _ _))
     have HNto64 := hide (Ny.onto hW64 (HNto63.out.st3 (by simp) _ _ _))
     have HNfrom64 := hide (Ny.onto hW64 (HNfrom63.out.st3 (by simp) _ _ _))
     have HNres64 := hide (Ny.onto hW64 (HNres63.out.st3 (by simp) _ _ _))
     clear HNn63 HNto63 HNfrom63 HNres63
     clear hW64 HS63
     clear p2
     refine rY 8 fun K hK => ?_
     have p3 := rG HS64 3
     go_simp
     refine onW hK (kS (HS64.out.st3 3 rfl _ _ _) [0, 1, 4]) fun W65 hW65 => ?_
     clear hK K
     have HS65 := onS hW65 (HS64.out.st3 3 rfl _ _ _)
     have HNn65 := hide (Ny.onto hW65 (HNn64.out.st3 (by simp) _ _ _))
     have HNto65 := hide (Ny.onto hW65 (HNto64.out.st3 (by simp) _ _ _))
     have HNfrom65 := hide (Ny.onto hW65 (HNfrom64.out.st3 (by simp) _ _ _))
     have HNres65 := hide (Ny.onto hW65 (HNres64.out.st3 (by simp) _ _ _))
     clear HNn64 HNto64 HNfrom64 HNres64
     clear hW65 HS64
     clear p3
     refine wpAnyH_done (by kernel_rfl) ?_ _
     go_wp2_with fail
     refine namedPost fun W66 hW66 => ?_
     have HS66 := hide (St.onto hW66 HS65.out)
     have HNn66 := hide (Ny.onto hW66 HNn65.out)
     have HNto66 := hide (Ny.onto hW66 HNto65.out)
     have HNfrom66 := hide (Ny.onto hW66 HNfrom65.out)
     have HNres66 := hide (Ny.onto hW66 HNres65.out)
     clear HNn65 HNto65 HNfrom65 HNres65
     clear hW66 HS65
     exact ended_pn rfl rfl rfl (HS66.out.get 2 rfl) (HS66.out.get 3 rfl) ⟨⟨_, _, _, _, _, _, _, _, rfl, HNres66.out.out, ⟨by omega, by omega, by omega⟩, by rw [cnt2]; omega⟩, HS66.out.below⟩
    have p2 := rG HS62 2
    go_simp
    refine onW hK (kS (HS62.out.st3 2 rfl _ _ _) [0, 1, 4]) fun W67 hW67 => ?_
    clear hK K
    have HS67 := onS hW67 (HS62.out.st3 2 rfl _ _ _)
    have HNn67 := hide (Ny.onto hW67 (HNn62.out.st3 (by simp) _ _ _))
    have HNto67 := hide (Ny.onto hW67 (HNto62.out.st3 (by simp) _ _ _))
    have HNfrom67 := hide (Ny.onto hW67 (HNfrom62.out.st3 (by simp) _ _ _))
    clear HNn62 HNto62 HNfrom62
    clear hW67 HS62
    clear p2
    refine rY 5 fun K hK => ?_
    go_simp
    refine onW hK (kS (HS67.out.al _) [0, 1, 4]) fun W68 hW68 => ?_
    clear hK K
    have HS68 := hide (St.onto hW68 (HS67.out.al _))
    have HNn68 := hide (Ny.onto hW68 (HNn67.out.al _))
    have HNto68 := hide (Ny.onto hW68 (HNto67.out.al _))
    have HNfrom68 := hide (Ny.onto hW68 (HNfrom67.out.al _))
    have HNres68 := hide (show Ny F w W68 [w.heap.size, w.heap.size + 1, w.heap.size + 1 + 1, w.heap.size + 1 + 1 + 1, w4.heap.size, w4.heap.size + 1, w53.heap.size, w53.heap.size + 1] (Nd.of 18 dot [d0, d53]) (.agg #[.int .i64 18, .string dot, .slice (some ⟨W67.heap.size, 0, none⟩) 2 2]) from hW68 ▸ (Sy.join (Ry.lit (Ry.cons HNn67.out (Ry.cons HNfrom67.out (Ry.nil))) HS67.out rfl (by simp [maxLen])) (by omega) (by simp only [maxLen]; omega)))
    clear HNn67 HNto67 HNfrom67
    clear hW68 HS67
    refine tK 6 (kS HS68.out [0, 1, 4]) ?_
    refine rY 8 fun K hK => ?_
    have p3 := rG HS68 3
    go_simp
    refine onW hK (kS (HS68.out.st3 3 rfl _ _ _) [0, 1, 4]) fun W69 hW69 => ?_
    clear hK K
    have HS69 := onS hW69 (HS68.out.st3 3 rfl _ _ _)
    have HNn69 := hide (Ny.onto hW69 (HNn68.out.st3 (by simp) _ _ _))
    have HNto69 := hide (Ny.onto hW69 (HNto68.out.st3 (by simp) _ _ _))
    have HNfrom69 := hide (Ny.onto hW69 (HNfrom68.out.st3 (by simp) _ _ _))
    have HNres69 := hide (Ny.onto hW69 (HNres68.out.st3 (by simp) _ _ _))
    clear HNn68 HNto68 HNfrom68 HNres68
    clear hW69 HS68
    clear p3
    refine wpAnyH_done (by kernel_rfl) ?_ _
    go_wp2_with fail
    refine namedPost fun W70 hW70 => ?_
    have HS70 := hide (St.onto hW70 HS69.out)
    have HNn70 := hide (Ny.onto hW70 HNn69.out)
    have HNto70 := hide (Ny.onto hW70 HNto69.out)
    have HNfrom70 := hide (Ny.onto hW70 HNfrom69.out)
    have HNres70 := hide (Ny.onto hW70 HNres69.out)
    clear HNn69 HNto69 HNfrom69 HNres69
    clear hW70 HS69
    exact ended_pn rfl rfl rfl (HS70.out.get 2 rfl) (HS70.out.get 3 rfl) ⟨⟨_, _, _, _, _, _, _, _, rfl, HNres70.out.out, ⟨by omega, by omega, by omega⟩, by rw [cnt2]; omega⟩, HS70.out.below⟩
   go_simp
   refine onW hK (kS (HS60.out.al _) [0, 1, 4]) fun W71 hW71 => ?_
   clear hK K
   have HS71 := hide (St.onto hW71 (HS60.out.al _))
   have HNn71 := hide (Ny.onto hW71 (HNn60.out.al _))
   have HNto71 := hide (Ny.onto hW71 (HNto60.out.al _))
   have HNfrom71 := hide (Ny.onto hW71 (HNfrom60.out.al _))
   have HNres71 := hide (show Ny F w W71 [w.heap.size, w.heap.size + 1, w.heap.size + 1 + 1, w.heap.size + 1 + 1 + 1, w4.heap.size, w4.heap.size + 1, w53.heap.size, w53.heap.size + 1] (Nd.of 18 dot [d0, d53]) (.agg #[.int .i64 18, .string dot, .slice (some ⟨W60.heap.size, 0, none⟩) 2 2]) from hW71 ▸ (Sy.join (Ry.lit (Ry.cons HNn60.out (Ry.cons HNfrom60.out (Ry.nil))) HS60.out rfl (by simp [maxLen])) (by omega) (by simp only [maxLen]; omega)))
   clear HNn60 HNto60 HNfrom60
   clear hW71 HS60
   refine tK 6 (kS HS71.out [0, 1, 4]) ?_
   refine rY 1 fun K hK => ?_
   go_simp
   refine (next_in (n := l.length) ⟨_, _, _, rfl⟩ (by omega) hlen).mono ?_
   rintro e w73 ⟨⟨j72, rfl, hj72, hl72, hp72⟩, hb73⟩
   have HS73 := hide (HS71.out.call hb73)
   have HNn73 := hide (HNn71.out.call hb73)
   clear HNn71
   have HNto73 := hide (HNto71.out.call hb73)
   clear HNto71
   have HNfrom73 := hide (HNfrom71.out.call hb73)
   clear HNfrom71
   have HNres73 := hide (HNres71.out.call hb73)
   clear HNres71
   clear hb73 HS71
   go_simp
   refine onK hK (kS HS73.out [0, 1, 4]) ?_
   clear hK K
   refine rY 7 fun K hK => ?_
   have p2 := rG HS73 2
   go_simp
   refine onW hK (kS (HS73.out.st3 2 rfl _ _ _) [0, 1, 4]) fun W74 hW74 => ?_
   clear hK K
   have HS74 := onS hW74 (HS73.out.st3 2 rfl _ _ _)
   have HNn74 := hide (Ny.onto hW74 (HNn73.out.st3 (by simp) _ _ _))
   have HNto74 := hide (Ny.onto hW74 (HNto73.out.st3 (by simp) _ _ _))
   have HNfrom74 := hide (Ny.onto hW74 (HNfrom73.out.st3 (by simp) _ _ _))
   have HNres74 := hide (Ny.onto hW74 (HNres73.out.st3 (by simp) _ _ _))
   clear HNn73 HNto73 HNfrom73 HNres73
   clear hW74 HS73
   clear p2
   refine rY 8 fun K hK => ?_
   have p3 := rG HS74 3
   go_simp
   refine onW hK (kS (HS74.out.st3 3 rfl _ _ _) [0, 1, 4]) fun W75 hW75 => ?_
   clear hK K
   have HS75 := onS hW75 (HS74.out.st3 3 rfl _ _ _)
   have HNn75 := hide (Ny.onto hW75 (HNn74.out.st3 (by simp) _ _ _))
   have HNto75 := hide (Ny.onto hW75 (HNto74.out.st3 (by simp) _ _ _))
   have HNfrom75 := hide (Ny.onto hW75 (HNfrom74.out.st3 (by simp) _ _ _))
   have HNres75 := hide (Ny.onto hW75 (HNres74.out.st3 (by simp) _ _ _))
   clear HNn74 HNto74 HNfrom74 HNres74
   clear hW75 HS74
   clear p3
   refine wpAnyH_done (by kernel_rfl) ?_ _
   go_wp2_with fail
   refine namedPost fun W76 hW76 => ?_
   have HS76 := hide (St.onto hW76 HS75.out)
   have HNn76 := hide (Ny.onto hW76 HNn75.out)
   have HNto76 := hide (Ny.onto hW76 HNto75.out)
   have HNfrom76 := hide (Ny.onto hW76 HNfrom75.out)
   have HNres76 := hide (Ny.onto hW76 HNres75.out)
   clear HNn75 HNto75 HNfrom75 HNres75
   clear hW76 HS75
   exact ended_pn rfl rfl rfl (HS76.out.get 2 rfl) (HS76.out.get 3 rfl) ⟨⟨_, _, _, _, _, _, _, _, rfl, HNres76.out.out, ⟨by omega, by omega, by omega⟩, by rw [cnt2]; omega⟩, HS76.out.below⟩
  clear hq57
  go_wp2_with fail
  refine (need_any ⟨#[58]⟩ (hi.below HS56.out.below) (by omega)).mono ?_
  rintro e w78 ⟨⟨i77, bad77, rfl, hr77⟩, hb78⟩
  have HS78 := hide (HS56.out.call hb78)
  have HNn78 := hide (HNn56.out.call hb78)
  clear HNn56
  have HNto78 := hide (HNto56.out.call hb78)
  clear HNto56
  have HNfrom78 := hide (HNfrom56.out.call hb78)
  clear HNfrom56
  clear hb78 HS56
  clear p0
  obtain ⟨hi77, hl77, hp77, hj77⟩ := hr77.out (by omega)
  clear hr77
  have p0 := rD HS78
  go_wp2_with (refine stopAt 47 ?_)
  refine namedStop fun W79 hW79 => ?_
  have HS79 := onS hW79 (HS78.out.st3 0 rfl _ _ _)
  have HNn79 := hide (Ny.onto hW79 (HNn78.out.st3 (by simp) _ _ _))
  have HNto79 := hide (Ny.onto hW79 (HNto78.out.st3 (by simp) _ _ _))
  have HNfrom79 := hide (Ny.onto hW79 (HNfrom78.out.st3 (by simp) _ _ _))
  clear HNn78 HNto78 HNfrom78
  clear hW79 HS78
  clear p0
  have p0 := rD HS79
  cases hkf : (k53 == 0)
  case true =>
   go_wp2_with fail
   refine (HK.out.pipe (hi.below HS79.out.below) (by omega) (by omega)).mono ?_
   rintro e w80 ⟨⟨i80, bad80, d80, k80, s80, y80, m80, c80, rfl, hn80, ⟨hi80, hl80, hp80⟩, hc80⟩, hb80⟩
   have HS80 := hide (HS79.out.call hb80)
   have HNn80 := hide (HNn79.out.call hb80)
   clear HNn79
   have HNto80 := hide (HNto79.out.call hb80)
   clear HNto79
   have HNfrom80 := hide (HNfrom79.out.call hb80)
   clear HNfrom79
   have HNx80 := hide (show Ny F w w80 [w.heap.size, w.heap.size + 1, w.heap.size + 1 + 1, w.heap.size + 1 + 1 + 1, w4.heap.size, w4.heap.size + 1, w53.heap.size, w53.heap.size + 1] _ _ from Ny.made hn80 HS79.out hb80)
   clear hn80 hb80 HS79
   clear p0
   have p0 := rD HS80
   go_wp2_with (refine stopAt 61 ?_)
   have lv81 := lV HS80
   refine namedStop fun W81 hW81 => ?_
   have HS81 := onS hW81 (HS80.out.st3 0 rfl _ _ _).va.va
   have HNn81 := hide (Ny.onto hW81 (((HNn80.out.st3 (by simp) _ _ _).var (g := w80.heap.size) (by simp) _).var (g := w80.heap.size + 1) (by simp) _))
   have HNfrom81 := hide (Ny.onto hW81 (((HNfrom80.out.st3 (by simp) _ _ _).var (g := w80.heap.size) (by simp) _).var (g := w80.heap.size + 1) (by simp) _))
   have HNx81 := hide (Ny.onto hW81 (((HNx80.out.st3 (by simp) _ _ _).var (g := w80.heap.size) (by simp) _).var (g := w80.heap.size + 1) (by simp) _))
   clear HNn80 HNfrom80 HNx80
   clear hW81 HS80
   clear p0
   have p0 := rD HS81
   go_wp2_with fail
   refine namedWp fun W82 hW82 => ?_
   have HS82 := onS hW82 (HS81.out.st3 5 rfl _ _ _)
   have HNn82 := hide (Ny.onto hW82 (HNn81.out.st3 (by simp) _ _ _))
   have HNfrom82 := hide (Ny.onto hW82 (HNfrom81.out.st3 (by simp) _ _ _))
   have HNto82 := hide (Ny.onto hW82 (HNx81.out.st3 (by simp) _ _ _))
   clear HNn81 HNfrom81 HNx81
   clear hW82 HS81
   clear p0
   refine rgn HS82.out [0, 1, 4, 5] fun W83 hW83 => ?_
   have HS83 := hide (St.onto hW83 HS82.out.dr)
   have HNn83 := hide (Ny.onto hW83 HNn82.out.dr)
   have HNfrom83 := hide (Ny.onto hW83 HNfrom82.out.dr)
   have HNto83 := hide (Ny.onto hW83 HNto82.out.dr)
   clear HNn82 HNfrom82 HNto82
   clear hW83 HS82
   refine tK 0 (kS HS83.out [0, 1, 4, 5]) ?_
   refine tK 2 (kS HS83.out [0, 1, 4, 5]) ?_
   refine tK 3 (kS HS83.out [0, 1, 4, 5]) ?_
   refine tK 4 (kS HS83.out [0, 1, 4, 5]) ?_
   refine tK 5 (kS HS83.out [0, 1, 4, 5]) ?_
   refine rY2 1 6 (fun K hK => ?_) (fun K hK => ?_)
   ·
    go_simp
    refine (need_any ⟨#[93]⟩ (hi.below HS83.out.below) (by omega)).mono ?_
    rintro e w85 ⟨⟨i84, bad84, rfl, hr84⟩, hb85⟩
    have HS85 := hide (HS83.out.call hb85)
    have HNn85 := hide (HNn83.out.call hb85)
    clear HNn83
    have HNfrom85 := hide (HNfrom83.out.call hb85)
    clear HNfrom83
    have HNto85 := hide (HNto83.out.call hb85)
    clear HNto83
    clear hb85 HS83
    obtain ⟨hi84, hl84, hp84, hj84⟩ := hr84.out (by omega)
    clear hr84
    go_simp
    refine onK hK (kS HS85.out [0, 1, 4, 5]) ?_
    clear hK K
    refine rY2 6 8 (fun K hK => ?_) (fun K hK => ?_)
    ·
     go_simp
     refine onW hK (kS (HS85.out.al _) [0, 1, 4, 5]) fun W86 hW86 => ?_
     clear hK K
     have HS86 := hide (St.onto hW86 (HS85.out.al _))
     have HNn86 := hide (Ny.onto hW86 (HNn85.out.al _))
     have HNfrom86 := hide (Ny.onto hW86 (HNfrom85.out.al _))
     have HNto86 := hide (Ny.onto hW86 (HNto85.out.al _))
     have HNres86 := hide (show Ny F w W86 [w.heap.size, w.heap.size + 1, w.heap.size + 1 + 1, w.heap.size + 1 + 1 + 1, w4.heap.size, w4.heap.size + 1, w53.heap.size, w53.heap.size + 1, w80.heap.size, w80.heap.size + 1] (Nd.of 19 dot [d0, d53, d80]) (.agg #[.int .i64 19, .string dot, .slice (some ⟨w85.heap.size, 0, none⟩) 3 3]) from hW86 ▸ (Sy.join (Ry.lit (Ry.cons HNn85.out (Ry.cons HNfrom85.out (Ry.cons HNto85.out (Ry.nil)))) HS85.out rfl (by simp [maxLen])) (by omega) (by simp only [maxLen]; omega)))
     clear HNn85 HNfrom85 HNto85
     clear hW86 HS85
     refine tK 7 (kS HS86.out [0, 1, 4, 5]) ?_
     refine rY 8 fun K hK => ?_
     have p2 := rG HS86 2
     go_simp
     refine onW hK (kS (HS86.out.st3 2 rfl _ _ _) [0, 1, 4, 5]) fun W87 hW87 => ?_
     clear hK K
     have HS87 := onS hW87 (HS86.out.st3 2 rfl _ _ _)
     have HNn87 := hide (Ny.onto hW87 (HNn86.out.st3 (by simp) _ _ _))
     have HNfrom87 := hide (Ny.onto hW87 (HNfrom86.out.st3 (by simp) _ _ _))
     have HNto87 := hide (Ny.onto hW87 (HNto86.out.st3 (by simp) _ _ _))
     have HNres87 := hide (Ny.onto hW87 (HNres86.out.st3 (by simp) _ _ _))
     clear HNn86 HNfrom86 HNto86 HNres86
     clear hW87 HS86
     clear p2
     refine rY 9 fun K hK => ?_
     have p3 := rG HS87 3
     go_simp
     refine onW hK (kS (HS87.out.st3 3 rfl _ _ _) [0, 1, 4, 5]) fun W88 hW88 => ?_
     clear hK K
     have HS88 := onS hW88 (HS87.out.st3 3 rfl _ _ _)
     have HNn88 := hide (Ny.onto hW88 (HNn87.out.st3 (by simp) _ _ _))
     have HNfrom88 := hide (Ny.onto hW88 (HNfrom87.out.st3 (by simp) _ _ _))
     have HNto88 := hide (Ny.onto hW88 (HNto87.out.st3 (by simp) _ _ _))
     have HNres88 := hide (Ny.onto hW88 (HNres87.out.st3 (by simp) _ _ _))
     clear HNn87 HNfrom87 HNto87 HNres87
     clear hW88 HS87
     clear p3
     refine wpAnyH_done (by kernel_rfl) ?_ _
     go_wp2_with fail
     refine namedPost fun W89 hW89 => ?_
     have HS89 := hide (St.onto hW89 HS88.out)
     have HNn89 := hide (Ny.onto hW89 HNn88.out)
     have HNfrom89 := hide (Ny.onto hW89 HNfrom88.out)
     have HNto89 := hide (Ny.onto hW89 HNto88.out)
     have HNres89 := hide (Ny.onto hW89 HNres88.out)
     clear HNn88 HNfrom88 HNto88 HNres88
     clear hW89 HS88
     exact ended_pn rfl rfl rfl (HS89.out.get 2 rfl) (HS89.out.get 3 rfl) ⟨⟨_, _, _, _, _, _, _, _, rfl, HNres89.out.out, ⟨by omega, by omega, by omega⟩, by rw [cnt3]; omega⟩, HS89.out.below⟩
    have p2 := rG HS85 2
    go_simp
    refine onW hK (kS (HS85.out.st3 2 rfl _ _ _) [0, 1, 4, 5]) fun W90 hW90 => ?_
    clear hK K
    have HS90 := onS hW90 (HS85.out.st3 2 rfl _ _ _)
    have HNn90 := hide (Ny.onto hW90 (HNn85.out.st3 (by simp) _ _ _))
    have HNfrom90 := hide (Ny.onto hW90 (HNfrom85.out.st3 (by simp) _ _ _))
    have HNto90 := hide (Ny.onto hW90 (HNto85.out.st3 (by simp) _ _ _))
    clear HNn85 HNfrom85 HNto85
    clear hW90 HS85
    clear p2
    refine rY 6 fun K hK => ?_
    go_simp
    refine onW hK (kS (HS90.out.al _) [0, 1, 4, 5]) fun W91 hW91 => ?_
    clear hK K
    have HS91 := hide (St.onto hW91 (HS90.out.al _))
    have HNn91 := hide (Ny.onto hW91 (HNn90.out.al _))
    have HNfrom91 := hide (Ny.onto hW91 (HNfrom90.out.al _))
    have HNto91 := hide (Ny.onto hW91 (HNto90.out.al _))
    have HNres91 := hide (show Ny F w W91 [w.heap.size, w.heap.size + 1, w.heap.size + 1 + 1, w.heap.size + 1 + 1 + 1, w4.heap.size, w4.heap.size + 1, w53.heap.size, w53.heap.size + 1, w80.heap.size, w80.heap.size + 1] (Nd.of 19 dot [d0, d53, d80]) (.agg #[.int .i64 19, .string dot, .slice (some ⟨W90.heap.size, 0, none⟩) 3 3]) from hW91 ▸ (Sy.join (Ry.lit (Ry.cons HNn90.out (Ry.cons HNfrom90.out (Ry.cons HNto90.out (Ry.nil)))) HS90.out rfl (by simp [maxLen])) (by omega) (by simp only [maxLen]; omega)))
    clear HNn90 HNfrom90 HNto90
    clear hW91 HS90
    refine tK 7 (kS HS91.out [0, 1, 4, 5]) ?_
    refine rY 9 fun K hK => ?_
    have p3 := rG HS91 3
    go_simp
    refine onW hK (kS (HS91.out.st3 3 rfl _ _ _) [0, 1, 4, 5]) fun W92 hW92 => ?_
    clear hK K
    have HS92 := onS hW92 (HS91.out.st3 3 rfl _ _ _)
    have HNn92 := hide (Ny.onto hW92 (HNn91.out.st3 (by simp) _ _ _))
    have HNfrom92 := hide (Ny.onto hW92 (HNfrom91.out.st3 (by simp) _ _ _))
    have HNto92 := hide (Ny.onto hW92 (HNto91.out.st3 (by simp) _ _ _))
    have HNres92 := hide (Ny.onto hW92 (HNres91.out.st3 (by simp) _ _ _))
    clear HNn91 HNfrom91 HNto91 HNres91
    clear hW92 HS91
    clear p3
    refine wpAnyH_done (by kernel_rfl) ?_ _
    go_wp2_with fail
    refine namedPost fun W93 hW93 => ?_
    have HS93 := hide (St.onto hW93 HS92.out)
    have HNn93 := hide (Ny.onto hW93 HNn92.out)
    have HNfrom93 := hide (Ny.onto hW93 HNfrom92.out)
    have HNto93 := hide (Ny.onto hW93 HNto92.out)
    have HNres93 := hide (Ny.onto hW93 HNres92.out)
    clear HNn92 HNfrom92 HNto92 HNres92
    clear hW93 HS92
    exact ended_pn rfl rfl rfl (HS93.out.get 2 rfl) (HS93.out.get 3 rfl) ⟨⟨_, _, _, _, _, _, _, _, rfl, HNres93.out.out, ⟨by omega, by omega, by omega⟩, by rw [cnt3]; omega⟩, HS93.out.below⟩
   go_simp
   refine onW hK (kS (HS83.out.al _) [0, 1, 4, 5]) fun W94 hW94 => ?_
   clear hK K
   have HS94 := hide (St.onto hW94 (HS83.out.al _))
   have HNn94 := hide (Ny.onto hW94 (HNn83.out.al _))
   have HNfrom94 := hide (Ny.onto hW94 (HNfrom83.out.al _))
   have HNto94 := hide (Ny.onto hW94 (HNto83.out.al _))
   have HNres94 := hide (show Ny F w W94 [w.heap.size, w.heap.size + 1, w.heap.size + 1 + 1, w.heap.size + 1 + 1 + 1, w4.heap.size, w4.heap.size + 1, w53.heap.size, w53.heap.size + 1, w80.heap.size, w80.heap.size + 1] (Nd.of 19 dot [d0, d53, d80]) (.agg #[.int .i64 19, .string dot, .slice (some ⟨W83.heap.size, 0, none⟩) 3 3]) from hW94 ▸ (Sy.join (Ry.lit (Ry.cons HNn83.out (Ry.cons HNfrom83.out (Ry.cons HNto83.out (Ry.nil)))) HS83.out rfl (by simp [maxLen])) (by omega) (by simp only [maxLen]; omega)))
   clear HNn83 HNfrom83 HNto83
   clear hW94 HS83
   refine tK 7 (kS HS94.out [0, 1, 4, 5]) ?_
   refine rY 1 fun K hK => ?_
   go_simp
   refine (need_any ⟨#[93]⟩ (hi.below HS94.out.below) (by omega)).mono ?_
   rintro e w96 ⟨⟨i95, bad95, rfl, hr95⟩, hb96⟩
   have HS96 := hide (HS94.out.call hb96)
   have HNn96 := hide (HNn94.out.call hb96)
   clear HNn94
   have HNfrom96 := hide (HNfrom94.out.call hb96)
   clear HNfrom94
   have HNto96 := hide (HNto94.out.call hb96)
   clear HNto94
   have HNres96 := hide (HNres94.out.call hb96)
   clear HNres94
   clear hb96 HS94
   obtain ⟨hi95, hl95, hp95, hj95⟩ := hr95.out (by omega)
   clear hr95
   go_simp
   refine onK hK (kS HS96.out [0, 1, 4, 5]) ?_
   clear hK K
   refine rY 8 fun K hK => ?_
   have p2 := rG HS96 2
   go_simp
   refine onW hK (kS (HS96.out.st3 2 rfl _ _ _) [0, 1, 4, 5]) fun W97 hW97 => ?_
   clear hK K
   have HS97 := onS hW97 (HS96.out.st3 2 rfl _ _ _)
   have HNn97 := hide (Ny.onto hW97 (HNn96.out.st3 (by simp) _ _ _))
   have HNfrom97 := hide (Ny.onto hW97 (HNfrom96.out.st3 (by simp) _ _ _))
   have HNto97 := hide (Ny.onto hW97 (HNto96.out.st3 (by simp) _ _ _))
   have HNres97 := hide (Ny.onto hW97 (HNres96.out.st3 (by simp) _ _ _))
   clear HNn96 HNfrom96 HNto96 HNres96
   clear hW97 HS96
   clear p2
   refine rY 9 fun K hK => ?_
   have p3 := rG HS97 3
   go_simp
   refine onW hK (kS (HS97.out.st3 3 rfl _ _ _) [0, 1, 4, 5]) fun W98 hW98 => ?_
   clear hK K
   have HS98 := onS hW98 (HS97.out.st3 3 rfl _ _ _)
   have HNn98 := hide (Ny.onto hW98 (HNn97.out.st3 (by simp) _ _ _))
   have HNfrom98 := hide (Ny.onto hW98 (HNfrom97.out.st3 (by simp) _ _ _))
   have HNto98 := hide (Ny.onto hW98 (HNto97.out.st3 (by simp) _ _ _))
   have HNres98 := hide (Ny.onto hW98 (HNres97.out.st3 (by simp) _ _ _))
   clear HNn97 HNfrom97 HNto97 HNres97
   clear hW98 HS97
   clear p3
   refine wpAnyH_done (by kernel_rfl) ?_ _
   go_wp2_with fail
   refine namedPost fun W99 hW99 => ?_
   have HS99 := hide (St.onto hW99 HS98.out)
   have HNn99 := hide (Ny.onto hW99 HNn98.out)
   have HNfrom99 := hide (Ny.onto hW99 HNfrom98.out)
   have HNto99 := hide (Ny.onto hW99 HNto98.out)
   have HNres99 := hide (Ny.onto hW99 HNres98.out)
   clear HNn98 HNfrom98 HNto98 HNres98
   clear hW99 HS98
   exact ended_pn rfl rfl rfl (HS99.out.get 2 rfl) (HS99.out.get 3 rfl) ⟨⟨_, _, _, _, _, _, _, _, rfl, HNres99.out.out, ⟨by omega, by omega, by omega⟩, by rw [cnt3]; omega⟩, HS99.out.below⟩
  go_wp2_with fail
  refine (op_any ⟨#[93]⟩ (hi.below HS79.out.below)).mono ?_
  rintro e w100 ⟨rfl, hb100⟩
  have HS100 := hide (HS79.out.call hb100)
  have HNn100 := hide (HNn79.out.call hb100)
  clear HNn79
  have HNto100 := hide (HNto79.out.call hb100)
  clear HNto79
  have HNfrom100 := hide (HNfrom79.out.call hb100)
  clear HNfrom79
  clear hb100 HS79
  clear p0
  have p0 := rD HS100
  cases hq101 : opB (tokAt l i77 bad77) ⟨#[93]⟩
  case false =>
   clear hq101
   go_wp2_with fail
   refine (HK.out.pipe (hi.below HS100.out.below) (by omega) (by omega)).mono ?_
   rintro e w102 ⟨⟨i102, bad102, d102, k102, s102, y102, m102, c102, rfl, hn102, ⟨hi102, hl102, hp102⟩, hc102⟩, hb102⟩
   have HS102 := hide (HS100.out.call hb102)
   have HNn102 := hide (HNn100.out.call hb102)
   clear HNn100
   have HNto102 := hide (HNto100.out.call hb102)
   clear HNto100
   have HNfrom102 := hide (HNfrom100.out.call hb102)
   clear HNfrom100
   have HNx102 := hide (show Ny F w w102 [w.heap.size, w.heap.size + 1, w.heap.size + 1 + 1, w.heap.size + 1 + 1 + 1, w4.heap.size, w4.heap.size + 1, w53.heap.size, w53.heap.size + 1] _ _ from Ny.made hn102 HS100.out hb102)
   clear hn102 hb102 HS100
   clear p0
   have p0 := rD HS102
   go_wp2_with (refine stopAt 61 ?_)
   have lv103 := lV HS102
   refine namedStop fun W103 hW103 => ?_
   have HS103 := onS hW103 (HS102.out.st3 0 rfl _ _ _).va.va
   have HNn103 := hide (Ny.onto hW103 (((HNn102.out.st3 (by simp) _ _ _).var (g := w102.heap.size) (by simp) _).var (g := w102.heap.size + 1) (by simp) _))
   have HNfrom103 := hide (Ny.onto hW103 (((HNfrom102.out.st3 (by simp) _ _ _).var (g := w102.heap.size) (by simp) _).var (g := w102.heap.size + 1) (by simp) _))
   have HNx103 := hide (Ny.onto hW103 (((HNx102.out.st3 (by simp) _ _ _).var (g := w102.heap.size) (by simp) _).var (g := w102.heap.size + 1) (by simp) _))
   clear HNn102 HNfrom102 HNx102
   clear hW103 HS102
   clear p0
   have p0 := rD HS103
   go_wp2_with fail
   refine namedWp fun W104 hW104 => ?_
   have HS104 := onS hW104 (HS103.out.st3 5 rfl _ _ _)
   have HNn104 := hide (Ny.onto hW104 (HNn103.out.st3 (by simp) _ _ _))
   have HNfrom104 := hide (Ny.onto hW104 (HNfrom103.out.st3 (by simp) _ _ _))
   have HNto104 := hide (Ny.onto hW104 (HNx103.out.st3 (by simp) _ _ _))
   clear HNn103 HNfrom103 HNx103
   clear hW104 HS103
   clear p0
   refine rgn HS104.out [0, 1, 4, 5] fun W105 hW105 => ?_
   have HS105 := hide (St.onto hW105 HS104.out.dr)
   have HNn105 := hide (Ny.onto hW105 HNn104.out.dr)
   have HNfrom105 := hide (Ny.onto hW105 HNfrom104.out.dr)
   have HNto105 := hide (Ny.onto hW105 HNto104.out.dr)
   clear HNn104 HNfrom104 HNto104
   clear hW105 HS104
   refine tK 0 (kS HS105.out [0, 1, 4, 5]) ?_
   refine tK 2 (kS HS105.out [0, 1, 4, 5]) ?_
   refine tK 3 (kS HS105.out [0, 1, 4, 5]) ?_
   refine tK 4 (kS HS105.out [0, 1, 4, 5]) ?_
   refine tK 5 (kS HS105.out [0, 1, 4, 5]) ?_
   refine rY2 1 6 (fun K hK => ?_) (fun K hK => ?_)
   ·
    go_simp
    refine (need_any ⟨#[93]⟩ (hi.below HS105.out.below) (by omega)).mono ?_
    rintro e w107 ⟨⟨i106, bad106, rfl, hr106⟩, hb107⟩
    have HS107 := hide (HS105.out.call hb107)
    have HNn107 := hide (HNn105.out.call hb107)
    clear HNn105
    have HNfrom107 := hide (HNfrom105.out.call hb107)
    clear HNfrom105
    have HNto107 := hide (HNto105.out.call hb107)
    clear HNto105
    clear hb107 HS105
    obtain ⟨hi106, hl106, hp106, hj106⟩ := hr106.out (by omega)
    clear hr106
    go_simp
    refine onK hK (kS HS107.out [0, 1, 4, 5]) ?_
    clear hK K
    refine rY2 6 8 (fun K hK => ?_) (fun K hK => ?_)
    ·
     go_simp
     refine onW hK (kS (HS107.out.al _) [0, 1, 4, 5]) fun W108 hW108 => ?_
     clear hK K
     have HS108 := hide (St.onto hW108 (HS107.out.al _))
     have HNn108 := hide (Ny.onto hW108 (HNn107.out.al _))
     have HNfrom108 := hide (Ny.onto hW108 (HNfrom107.out.al _))
     have HNto108 := hide (Ny.onto hW108 (HNto107.out.al _))
     have HNres108 := hide (show Ny F w W108 [w.heap.size, w.heap.size + 1, w.heap.size + 1 + 1, w.heap.size + 1 + 1 + 1, w4.heap.size, w4.heap.size + 1, w53.heap.size, w53.heap.size + 1, w102.heap.size, w102.heap.size + 1] (Nd.of 19 dot [d0, d53, d102]) (.agg #[.int .i64 19, .string dot, .slice (some ⟨w107.heap.size, 0, none⟩) 3 3]) from hW108 ▸ (Sy.join (Ry.lit (Ry.cons HNn107.out (Ry.cons HNfrom107.out (Ry.cons HNto107.out (Ry.nil)))) HS107.out rfl (by simp [maxLen])) (by omega) (by simp only [maxLen]; omega)))
     clear HNn107 HNfrom107 HNto107
     clear hW108 HS107
     refine tK 7 (kS HS108.out [0, 1, 4, 5]) ?_
     refine rY 8 fun K hK => ?_
     have p2 := rG HS108 2
     go_simp
     refine onW hK (kS (HS108.out.st3 2 rfl _ _ _) [0, 1, 4, 5]) fun W109 hW109 => ?_
     clear hK K
     have HS109 := onS hW109 (HS108.out.st3 2 rfl _ _ _)
     have HNn109 := hide (Ny.onto hW109 (HNn108.out.st3 (by simp) _ _ _))
     have HNfrom109 := hide (Ny.onto hW109 (HNfrom108.out.st3 (by simp) _ _ _))
     have HNto109 := hide (Ny.onto hW109 (HNto108.out.st3 (by simp) _ _ _))
     have HNres109 := hide (Ny.onto hW109 (HNres108.out.st3 (by simp) _ _ _))
     clear HNn108 HNfrom108 HNto108 HNres108
     clear hW109 HS108
     clear p2
     refine rY 9 fun K hK => ?_
     have p3 := rG HS109 3
     go_simp
     refine onW hK (kS (HS109.out.st3 3 rfl _ _ _) [0, 1, 4, 5]) fun W110 hW110 => ?_
     clear hK K
     have HS110 := onS hW110 (HS109.out.st3 3 rfl _ _ _)
     have HNn110 := hide (Ny.onto hW110 (HNn109.out.st3 (by simp) _ _ _))
     have HNfrom110 := hide (Ny.onto hW110 (HNfrom109.out.st3 (by simp) _ _ _))
     have HNto110 := hide (Ny.onto hW110 (HNto109.out.st3 (by simp) _ _ _))
     have HNres110 := hide (Ny.onto hW110 (HNres109.out.st3 (by simp) _ _ _))
     clear HNn109 HNfrom109 HNto109 HNres109
     clear hW110 HS109
     clear p3
     refine wpAnyH_done (by kernel_rfl) ?_ _
     go_wp2_with fail
     refine namedPost fun W111 hW111 => ?_
     have HS111 := hide (St.onto hW111 HS110.out)
     have HNn111 := hide (Ny.onto hW111 HNn110.out)
     have HNfrom111 := hide (Ny.onto hW111 HNfrom110.out)
     have HNto111 := hide (Ny.onto hW111 HNto110.out)
     have HNres111 := hide (Ny.onto hW111 HNres110.out)
     clear HNn110 HNfrom110 HNto110 HNres110
     clear hW111 HS110
     exact ended_pn rfl rfl rfl (HS111.out.get 2 rfl) (HS111.out.get 3 rfl) ⟨⟨_, _, _, _, _, _, _, _, rfl, HNres111.out.out, ⟨by omega, by omega, by omega⟩, by rw [cnt3]; omega⟩, HS111.out.below⟩
    have p2 := rG HS107 2
    go_simp
    refine onW hK (kS (HS107.out.st3 2 rfl _ _ _) [0, 1, 4, 5]) fun W112 hW112 => ?_
    clear hK K
    have HS112 := onS hW112 (HS107.out.st3 2 rfl _ _ _)
    have HNn112 := hide (Ny.onto hW112 (HNn107.out.st3 (by simp) _ _ _))
    have HNfrom112 := hide (Ny.onto hW112 (HNfrom107.out.st3 (by simp) _ _ _))
    have HNto112 := hide (Ny.onto hW112 (HNto107.out.st3 (by simp) _ _ _))
    clear HNn107 HNfrom107 HNto107
    clear hW112 HS107
    clear p2
    refine rY 6 fun K hK => ?_
    go_simp
    refine onW hK (kS (HS112.out.al _) [0, 1, 4, 5]) fun W113 hW113 => ?_
    clear hK K
    have HS113 := hide (St.onto hW113 (HS112.out.al _))
    have HNn113 := hide (Ny.onto hW113 (HNn112.out.al _))
    have HNfrom113 := hide (Ny.onto hW113 (HNfrom112.out.al _))
    have HNto113 := hide (Ny.onto hW113 (HNto112.out.al _))
    have HNres113 := hide (show Ny F w W113 [w.heap.size, w.heap.size + 1, w.heap.size + 1 + 1, w.heap.size + 1 + 1 + 1, w4.heap.size, w4.heap.size + 1, w53.heap.size, w53.heap.size + 1, w102.heap.size, w102.heap.size + 1] (Nd.of 19 dot [d0, d53, d102]) (.agg #[.int .i64 19, .string dot, .slice (some ⟨W112.heap.size, 0, none⟩) 3 3]) from hW113 ▸ (Sy.join (Ry.lit (Ry.cons HNn112.out (Ry.cons HNfrom112.out (Ry.cons HNto112.out (Ry.nil)))) HS112.out rfl (by simp [maxLen])) (by omega) (by simp only [maxLen]; omega)))
    clear HNn112 HNfrom112 HNto112
    clear hW113 HS112
    refine tK 7 (kS HS113.out [0, 1, 4, 5]) ?_
    refine rY 9 fun K hK => ?_
    have p3 := rG HS113 3
    go_simp
    refine onW hK (kS (HS113.out.st3 3 rfl _ _ _) [0, 1, 4, 5]) fun W114 hW114 => ?_
    clear hK K
    have HS114 := onS hW114 (HS113.out.st3 3 rfl _ _ _)
    have HNn114 := hide (Ny.onto hW114 (HNn113.out.st3 (by simp) _ _ _))
    have HNfrom114 := hide (Ny.onto hW114 (HNfrom113.out.st3 (by simp) _ _ _))
    have HNto114 := hide (Ny.onto hW114 (HNto113.out.st3 (by simp) _ _ _))
    have HNres114 := hide (Ny.onto hW114 (HNres113.out.st3 (by simp) _ _ _))
    clear HNn113 HNfrom113 HNto113 HNres113
    clear hW114 HS113
    clear p3
    refine wpAnyH_done (by kernel_rfl) ?_ _
    go_wp2_with fail
    refine namedPost fun W115 hW115 => ?_
    have HS115 := hide (St.onto hW115 HS114.out)
    have HNn115 := hide (Ny.onto hW115 HNn114.out)
    have HNfrom115 := hide (Ny.onto hW115 HNfrom114.out)
    have HNto115 := hide (Ny.onto hW115 HNto114.out)
    have HNres115 := hide (Ny.onto hW115 HNres114.out)
    clear HNn114 HNfrom114 HNto114 HNres114
    clear hW115 HS114
    exact ended_pn rfl rfl rfl (HS115.out.get 2 rfl) (HS115.out.get 3 rfl) ⟨⟨_, _, _, _, _, _, _, _, rfl, HNres115.out.out, ⟨by omega, by omega, by omega⟩, by rw [cnt3]; omega⟩, HS115.out.below⟩
   go_simp
   refine onW hK (kS (HS105.out.al _) [0, 1, 4, 5]) fun W116 hW116 => ?_
   clear hK K
   have HS116 := hide (St.onto hW116 (HS105.out.al _))
   have HNn116 := hide (Ny.onto hW116 (HNn105.out.al _))
   have HNfrom116 := hide (Ny.onto hW116 (HNfrom105.out.al _))
   have HNto116 := hide (Ny.onto hW116 (HNto105.out.al _))
   have HNres116 := hide (show Ny F w W116 [w.heap.size, w.heap.size + 1, w.heap.size + 1 + 1, w.heap.size + 1 + 1 + 1, w4.heap.size, w4.heap.size + 1, w53.heap.size, w53.heap.size + 1, w102.heap.size, w102.heap.size + 1] (Nd.of 19 dot [d0, d53, d102]) (.agg #[.int .i64 19, .string dot, .slice (some ⟨W105.heap.size, 0, none⟩) 3 3]) from hW116 ▸ (Sy.join (Ry.lit (Ry.cons HNn105.out (Ry.cons HNfrom105.out (Ry.cons HNto105.out (Ry.nil)))) HS105.out rfl (by simp [maxLen])) (by omega) (by simp only [maxLen]; omega)))
   clear HNn105 HNfrom105 HNto105
   clear hW116 HS105
   refine tK 7 (kS HS116.out [0, 1, 4, 5]) ?_
   refine rY 1 fun K hK => ?_
   go_simp
   refine (need_any ⟨#[93]⟩ (hi.below HS116.out.below) (by omega)).mono ?_
   rintro e w118 ⟨⟨i117, bad117, rfl, hr117⟩, hb118⟩
   have HS118 := hide (HS116.out.call hb118)
   have HNn118 := hide (HNn116.out.call hb118)
   clear HNn116
   have HNfrom118 := hide (HNfrom116.out.call hb118)
   clear HNfrom116
   have HNto118 := hide (HNto116.out.call hb118)
   clear HNto116
   have HNres118 := hide (HNres116.out.call hb118)
   clear HNres116
   clear hb118 HS116
   obtain ⟨hi117, hl117, hp117, hj117⟩ := hr117.out (by omega)
   clear hr117
   go_simp
   refine onK hK (kS HS118.out [0, 1, 4, 5]) ?_
   clear hK K
   refine rY 8 fun K hK => ?_
   have p2 := rG HS118 2
   go_simp
   refine onW hK (kS (HS118.out.st3 2 rfl _ _ _) [0, 1, 4, 5]) fun W119 hW119 => ?_
   clear hK K
   have HS119 := onS hW119 (HS118.out.st3 2 rfl _ _ _)
   have HNn119 := hide (Ny.onto hW119 (HNn118.out.st3 (by simp) _ _ _))
   have HNfrom119 := hide (Ny.onto hW119 (HNfrom118.out.st3 (by simp) _ _ _))
   have HNto119 := hide (Ny.onto hW119 (HNto118.out.st3 (by simp) _ _ _))
   have HNres119 := hide (Ny.onto hW119 (HNres118.out.st3 (by simp) _ _ _))
   clear HNn118 HNfrom118 HNto118 HNres118
   clear hW119 HS118
   clear p2
   refine rY 9 fun K hK => ?_
   have p3 := rG HS119 3
   go_simp
   refine onW hK (kS (HS119.out.st3 3 rfl _ _ _) [0, 1, 4, 5]) fun W120 hW120 => ?_
   clear hK K
   have HS120 := onS hW120 (HS119.out.st3 3 rfl _ _ _)
   have HNn120 := hide (Ny.onto hW120 (HNn119.out.st3 (by simp) _ _ _))
   have HNfrom120 := hide (Ny.onto hW120 (HNfrom119.out.st3 (by simp) _ _ _))
   have HNto120 := hide (Ny.onto hW120 (HNto119.out.st3 (by simp) _ _ _))
   have HNres120 := hide (Ny.onto hW120 (HNres119.out.st3 (by simp) _ _ _))
   clear HNn119 HNfrom119 HNto119 HNres119
   clear hW120 HS119
   clear p3
   refine wpAnyH_done (by kernel_rfl) ?_ _
   go_wp2_with fail
   refine namedPost fun W121 hW121 => ?_
   have HS121 := hide (St.onto hW121 HS120.out)
   have HNn121 := hide (Ny.onto hW121 HNn120.out)
   have HNfrom121 := hide (Ny.onto hW121 HNfrom120.out)
   have HNto121 := hide (Ny.onto hW121 HNto120.out)
   have HNres121 := hide (Ny.onto hW121 HNres120.out)
   clear HNn120 HNfrom120 HNto120 HNres120
   clear hW121 HS120
   exact ended_pn rfl rfl rfl (HS121.out.get 2 rfl) (HS121.out.get 3 rfl) ⟨⟨_, _, _, _, _, _, _, _, rfl, HNres121.out.out, ⟨by omega, by omega, by omega⟩, by rw [cnt3]; omega⟩, HS121.out.below⟩
  clear hq101
  go_wp2_with fail
  refine namedWp fun W122 hW122 => ?_
  have HS122 := hide (St.onto hW122 HS100.out)
  have HNn122 := hide (Ny.onto hW122 HNn100.out)
  have HNto122 := hide (Ny.onto hW122 HNto100.out)
  have HNfrom122 := hide (Ny.onto hW122 HNfrom100.out)
  clear HNn100 HNto100 HNfrom100
  clear hW122 HS100
  clear p0
  refine rgn HS122.out [0, 1, 4, 5] fun W123 hW123 => ?_
  have HS123 := hide (St.onto hW123 HS122.out.dr)
  have HNn123 := hide (Ny.onto hW123 HNn122.out.dr)
  have HNto123 := hide (Ny.onto hW123 HNto122.out.dr)
  have HNfrom123 := hide (Ny.onto hW123 HNfrom122.out.dr)
  clear HNn122 HNto122 HNfrom122
  clear hW123 HS122
  refine tK 0 (kS HS123.out [0, 1, 4, 5]) ?_
  refine tK 2 (kS HS123.out [0, 1, 4, 5]) ?_
  refine tK 3 (kS HS123.out [0, 1, 4, 5]) ?_
  refine tK 4 (kS HS123.out [0, 1, 4, 5]) ?_
  refine tK 5 (kS HS123.out [0, 1, 4, 5]) ?_
  refine rY2 1 6 (fun K hK => ?_) (fun K hK => ?_)
  ·
   go_simp
   refine (need_any ⟨#[93]⟩ (hi.below HS123.out.below) (by omega)).mono ?_
   rintro e w125 ⟨⟨i124, bad124, rfl, hr124⟩, hb125⟩
   have HS125 := hide (HS123.out.call hb125)
   have HNn125 := hide (HNn123.out.call hb125)
   clear HNn123
   have HNto125 := hide (HNto123.out.call hb125)
   clear HNto123
   have HNfrom125 := hide (HNfrom123.out.call hb125)
   clear HNfrom123
   clear hb125 HS123
   obtain ⟨hi124, hl124, hp124, hj124⟩ := hr124.out (by omega)
   clear hr124
   go_simp
   refine onK hK (kS HS125.out [0, 1, 4, 5]) ?_
   clear hK K
   refine rY2 6 8 (fun K hK => ?_) (fun K hK => ?_)
   ·
    go_simp
    refine onW hK (kS (HS125.out.al _) [0, 1, 4, 5]) fun W126 hW126 => ?_
    clear hK K
    have HS126 := hide (St.onto hW126 (HS125.out.al _))
    have HNn126 := hide (Ny.onto hW126 (HNn125.out.al _))
    have HNto126 := hide (Ny.onto hW126 (HNto125.out.al _))
    have HNfrom126 := hide (Ny.onto hW126 (HNfrom125.out.al _))
    have HNres126 := hide (show Ny F w W126 [w.heap.size, w.heap.size + 1, w.heap.size + 1 + 1, w.heap.size + 1 + 1 + 1, w4.heap.size, w4.heap.size + 1, w53.heap.size, w53.heap.size + 1] (Nd.of 19 dot [d0, d53, (Nd.mk 0 ⟨#[]⟩ .nil)]) (.agg #[.int .i64 19, .string dot, .slice (some ⟨w125.heap.size, 0, none⟩) 3 3]) from hW126 ▸ (Sy.join (Ry.lit (Ry.cons HNn125.out (Ry.cons HNfrom125.out (Ry.cons HNto125.out (Ry.nil)))) HS125.out rfl (by simp [maxLen])) (by omega) (by simp only [maxLen]; omega)))
    clear HNn125 HNto125 HNfrom125
    clear hW126 HS125
    refine tK 7 (kS HS126.out [0, 1, 4, 5]) ?_
    refine rY 8 fun K hK => ?_
    have p2 := rG HS126 2
    go_simp
    refine onW hK (kS (HS126.out.st3 2 rfl _ _ _) [0, 1, 4, 5]) fun W127 hW127 => ?_
    clear hK K
    have HS127 := onS hW127 (HS126.out.st3 2 rfl _ _ _)
    have HNn127 := hide (Ny.onto hW127 (HNn126.out.st3 (by simp) _ _ _))
    have HNto127 := hide (Ny.onto hW127 (HNto126.out.st3 (by simp) _ _ _))
    have HNfrom127 := hide (Ny.onto hW127 (HNfrom126.out.st3 (by simp) _ _ _))
    have HNres127 := hide (Ny.onto hW127 (HNres126.out.st3 (by simp) _ _ _))
    clear HNn126 HNto126 HNfrom126 HNres126
    clear hW127 HS126
    clear p2
    refine rY 9 fun K hK => ?_
    have p3 := rG HS127 3
    go_simp
    refine onW hK (kS (HS127.out.st3 3 rfl _ _ _) [0, 1, 4, 5]) fun W128 hW128 => ?_
    clear hK K
    have HS128 := onS hW128 (HS127.out.st3 3 rfl _ _ _)
    have HNn128 := hide (Ny.onto hW128 (HNn127.out.st3 (by simp) _ _ _))
    have HNto128 := hide (Ny.onto hW128 (HNto127.out.st3 (by simp) _ _ _))
    have HNfrom128 := hide (Ny.onto hW128 (HNfrom127.out.st3 (by simp) _ _ _))
    have HNres128 := hide (Ny.onto hW128 (HNres127.out.st3 (by simp) _ _ _))
    clear HNn127 HNto127 HNfrom127 HNres127
    clear hW128 HS127
    clear p3
    refine wpAnyH_done (by kernel_rfl) ?_ _
    go_wp2_with fail
    refine namedPost fun W129 hW129 => ?_
    have HS129 := hide (St.onto hW129 HS128.out)
    have HNn129 := hide (Ny.onto hW129 HNn128.out)
    have HNto129 := hide (Ny.onto hW129 HNto128.out)
    have HNfrom129 := hide (Ny.onto hW129 HNfrom128.out)
    have HNres129 := hide (Ny.onto hW129 HNres128.out)
    clear HNn128 HNto128 HNfrom128 HNres128
    clear hW129 HS128
    exact ended_pn rfl rfl rfl (HS129.out.get 2 rfl) (HS129.out.get 3 rfl) ⟨⟨_, _, _, _, _, _, _, _, rfl, HNres129.out.out, ⟨by omega, by omega, by omega⟩, by rw [cnt3, cntLeaf]; omega⟩, HS129.out.below⟩
   have p2 := rG HS125 2
   go_simp
   refine onW hK (kS (HS125.out.st3 2 rfl _ _ _) [0, 1, 4, 5]) fun W130 hW130 => ?_
   clear hK K
   have HS130 := onS hW130 (HS125.out.st3 2 rfl _ _ _)
   have HNn130 := hide (Ny.onto hW130 (HNn125.out.st3 (by simp) _ _ _))
   have HNto130 := hide (Ny.onto hW130 (HNto125.out.st3 (by simp) _ _ _))
   have HNfrom130 := hide (Ny.onto hW130 (HNfrom125.out.st3 (by simp) _ _ _))
   clear HNn125 HNto125 HNfrom125
   clear hW130 HS125
   clear p2
   refine rY 6 fun K hK => ?_
   go_simp
   refine onW hK (kS (HS130.out.al _) [0, 1, 4, 5]) fun W131 hW131 => ?_
   clear hK K
   have HS131 := hide (St.onto hW131 (HS130.out.al _))
   have HNn131 := hide (Ny.onto hW131 (HNn130.out.al _))
   have HNto131 := hide (Ny.onto hW131 (HNto130.out.al _))
   have HNfrom131 := hide (Ny.onto hW131 (HNfrom130.out.al _))
   have HNres131 := hide (show Ny F w W131 [w.heap.size, w.heap.size + 1, w.heap.size + 1 + 1, w.heap.size + 1 + 1 + 1, w4.heap.size, w4.heap.size + 1, w53.heap.size, w53.heap.size + 1] (Nd.of 19 dot [d0, d53, (Nd.mk 0 ⟨#[]⟩ .nil)]) (.agg #[.int .i64 19, .string dot, .slice (some ⟨W130.heap.size, 0, none⟩) 3 3]) from hW131 ▸ (Sy.join (Ry.lit (Ry.cons HNn130.out (Ry.cons HNfrom130.out (Ry.cons HNto130.out (Ry.nil)))) HS130.out rfl (by simp [maxLen])) (by omega) (by simp only [maxLen]; omega)))
   clear HNn130 HNto130 HNfrom130
   clear hW131 HS130
   refine tK 7 (kS HS131.out [0, 1, 4, 5]) ?_
   refine rY 9 fun K hK => ?_
   have p3 := rG HS131 3
   go_simp
   refine onW hK (kS (HS131.out.st3 3 rfl _ _ _) [0, 1, 4, 5]) fun W132 hW132 => ?_
   clear hK K
   have HS132 := onS hW132 (HS131.out.st3 3 rfl _ _ _)
   have HNn132 := hide (Ny.onto hW132 (HNn131.out.st3 (by simp) _ _ _))
   have HNto132 := hide (Ny.onto hW132 (HNto131.out.st3 (by simp) _ _ _))
   have HNfrom132 := hide (Ny.onto hW132 (HNfrom131.out.st3 (by simp) _ _ _))
   have HNres132 := hide (Ny.onto hW132 (HNres131.out.st3 (by simp) _ _ _))
   clear HNn131 HNto131 HNfrom131 HNres131
   clear hW132 HS131
   clear p3
   refine wpAnyH_done (by kernel_rfl) ?_ _
   go_wp2_with fail
   refine namedPost fun W133 hW133 => ?_
   have HS133 := hide (St.onto hW133 HS132.out)
   have HNn133 := hide (Ny.onto hW133 HNn132.out)
   have HNto133 := hide (Ny.onto hW133 HNto132.out)
   have HNfrom133 := hide (Ny.onto hW133 HNfrom132.out)
   have HNres133 := hide (Ny.onto hW133 HNres132.out)
   clear HNn132 HNto132 HNfrom132 HNres132
   clear hW133 HS132
   exact ended_pn rfl rfl rfl (HS133.out.get 2 rfl) (HS133.out.get 3 rfl) ⟨⟨_, _, _, _, _, _, _, _, rfl, HNres133.out.out, ⟨by omega, by omega, by omega⟩, by rw [cnt3, cntLeaf]; omega⟩, HS133.out.below⟩
  go_simp
  refine onW hK (kS (HS123.out.al _) [0, 1, 4, 5]) fun W134 hW134 => ?_
  clear hK K
  have HS134 := hide (St.onto hW134 (HS123.out.al _))
  have HNn134 := hide (Ny.onto hW134 (HNn123.out.al _))
  have HNto134 := hide (Ny.onto hW134 (HNto123.out.al _))
  have HNfrom134 := hide (Ny.onto hW134 (HNfrom123.out.al _))
  have HNres134 := hide (show Ny F w W134 [w.heap.size, w.heap.size + 1, w.heap.size + 1 + 1, w.heap.size + 1 + 1 + 1, w4.heap.size, w4.heap.size + 1, w53.heap.size, w53.heap.size + 1] (Nd.of 19 dot [d0, d53, (Nd.mk 0 ⟨#[]⟩ .nil)]) (.agg #[.int .i64 19, .string dot, .slice (some ⟨W123.heap.size, 0, none⟩) 3 3]) from hW134 ▸ (Sy.join (Ry.lit (Ry.cons HNn123.out (Ry.cons HNfrom123.out (Ry.cons HNto123.out (Ry.nil)))) HS123.out rfl (by simp [maxLen])) (by omega) (by simp only [maxLen]; omega)))
  clear HNn123 HNto123 HNfrom123
  clear hW134 HS123
  refine tK 7 (kS HS134.out [0, 1, 4, 5]) ?_
  refine rY 1 fun K hK => ?_
  go_simp
  refine (need_any ⟨#[93]⟩ (hi.below HS134.out.below) (by omega)).mono ?_
  rintro e w136 ⟨⟨i135, bad135, rfl, hr135⟩, hb136⟩
  have HS136 := hide (HS134.out.call hb136)
  have HNn136 := hide (HNn134.out.call hb136)
  clear HNn134
  have HNto136 := hide (HNto134.out.call hb136)
  clear HNto134
  have HNfrom136 := hide (HNfrom134.out.call hb136)
  clear HNfrom134
  have HNres136 := hide (HNres134.out.call hb136)
  clear HNres134
  clear hb136 HS134
  obtain ⟨hi135, hl135, hp135, hj135⟩ := hr135.out (by omega)
  clear hr135
  go_simp
  refine onK hK (kS HS136.out [0, 1, 4, 5]) ?_
  clear hK K
  refine rY 8 fun K hK => ?_
  have p2 := rG HS136 2
  go_simp
  refine onW hK (kS (HS136.out.st3 2 rfl _ _ _) [0, 1, 4, 5]) fun W137 hW137 => ?_
  clear hK K
  have HS137 := onS hW137 (HS136.out.st3 2 rfl _ _ _)
  have HNn137 := hide (Ny.onto hW137 (HNn136.out.st3 (by simp) _ _ _))
  have HNto137 := hide (Ny.onto hW137 (HNto136.out.st3 (by simp) _ _ _))
  have HNfrom137 := hide (Ny.onto hW137 (HNfrom136.out.st3 (by simp) _ _ _))
  have HNres137 := hide (Ny.onto hW137 (HNres136.out.st3 (by simp) _ _ _))
  clear HNn136 HNto136 HNfrom136 HNres136
  clear hW137 HS136
  clear p2
  refine rY 9 fun K hK => ?_
  have p3 := rG HS137 3
  go_simp
  refine onW hK (kS (HS137.out.st3 3 rfl _ _ _) [0, 1, 4, 5]) fun W138 hW138 => ?_
  clear hK K
  have HS138 := onS hW138 (HS137.out.st3 3 rfl _ _ _)
  have HNn138 := hide (Ny.onto hW138 (HNn137.out.st3 (by simp) _ _ _))
  have HNto138 := hide (Ny.onto hW138 (HNto137.out.st3 (by simp) _ _ _))
  have HNfrom138 := hide (Ny.onto hW138 (HNfrom137.out.st3 (by simp) _ _ _))
  have HNres138 := hide (Ny.onto hW138 (HNres137.out.st3 (by simp) _ _ _))
  clear HNn137 HNto137 HNfrom137 HNres137
  clear hW138 HS137
  clear p3
  refine wpAnyH_done (by kernel_rfl) ?_ _
  go_wp2_with fail
  refine namedPost fun W139 hW139 => ?_
  have HS139 := hide (St.onto hW139 HS138.out)
  have HNn139 := hide (Ny.onto hW139 HNn138.out)
  have HNto139 := hide (Ny.onto hW139 HNto138.out)
  have HNfrom139 := hide (Ny.onto hW139 HNfrom138.out)
  have HNres139 := hide (Ny.onto hW139 HNres138.out)
  clear HNn138 HNto138 HNfrom138 HNres138
  clear hW139 HS138
  exact ended_pn rfl rfl rfl (HS139.out.get 2 rfl) (HS139.out.get 3 rfl) ⟨⟨_, _, _, _, _, _, _, _, rfl, HNres139.out.out, ⟨by omega, by omega, by omega⟩, by rw [cnt3, cntLeaf]; omega⟩, HS139.out.below⟩
end Go.Proofs.YtacgmmpdichlmaaGreat
