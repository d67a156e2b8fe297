/-
  The reference's bracket: a term that begins with one. Its condition: the parser's items lie in memory.
-/
import Derived.Test.YtacgmmpdichlmaaGreatM02
namespace Go.Proofs.YtacgmmpdichlmaaGreat
open Go.RowKit
attribute [local go_sem ↓] Go.wp_at_zero Go.wp_at_succ

set_option maxRecDepth 4000 in
set_option maxHeartbeats 4000000 in
theorem bracket_k {l : List Tk} {a : Option Addr} {cap m : Nat} (K : Kn l a cap m) {i : Nat} {bad : Bool} {w : World} (hi : Its w a l) (hat : i ≤ l.length) (hm : leftP l.length i bad ≤ m) : Calls Tryz.prog 116 #[.agg #[.slice a l.length cap, .int .i64 i, .bool bad]] w (PN l a cap w i bad 2) := by
  have HK := hide K
  have hlen := hi.2.1
  clear K
  go_enter Tryz.func116, Tryz.ntmps116
  go_wp2_with fail
  refine named fun W1 hW1 => ?_
  have HS1 := onS hW1 (St.nil w).va.va.va
  clear hW1
  refine (op_any ⟨#[40]⟩ (hi.below HS1.out.below)).mono ?_
  rintro e w2 ⟨rfl, hb2⟩
  have HS2 := hide (HS1.out.call hb2)
  clear hb2 HS1
  have p0 := rD HS2
  cases hq3 : opB (tokAt l i bad) ⟨#[40]⟩
  case true =>
   obtain ⟨rfl, hlt4⟩ := opB_in hq3
   clear hq3
   go_wp2_with fail
   refine (next_in (n := l.length) ⟨_, _, _, rfl⟩ (by omega) hlen).mono ?_
   rintro e w6 ⟨⟨j5, rfl, hj5, hl5, hp5⟩, hb6⟩
   have HS6 := hide (HS2.out.call hb6)
   clear hb6 HS2
   clear p0
   have p0 := rD HS6
   go_wp2_with fail
   refine (HK.out.pipe (hi.below HS6.out.below) (by omega) (by omega)).mono ?_
   rintro e w7 ⟨⟨i7, bad7, d7, k7, s7, y7, m7, c7, rfl, hn7, ⟨hi7, hl7, hp7⟩, hc7⟩, hb7⟩
   have HS7 := hide (HS6.out.call hb7)
   have HNn7 := hide (show Nx w w7 [w.heap.size, w.heap.size + 1, w.heap.size + 1 + 1] _ _ from Nx.made hn7 HS6.out)
   clear hn7 hb7 HS6
   clear p0
   have p0 := rD HS7
   go_wp2_with fail
   have lv8 := lV HS7
   refine namedWp fun W8 hW8 => ?_
   have HS8 := onS hW8 HS7.out.va.va
   have HNn8 := hide (Nx.onto hW8 ((HNn7.out.var (g := w7.heap.size) (by simp) _).var (g := w7.heap.size + 1) (by simp) _))
   clear HNn7
   clear hW8 HS7
   clear p0
   refine rgn HS8.out [3, 4] fun W9 hW9 => ?_
   have HS9 := hide (St.onto hW9 HS8.out.dr)
   have HNn9 := hide (Nx.onto hW9 HNn8.out.dr)
   clear HNn8
   clear hW9 HS8
   refine tK 0 (kS HS9.out [3, 4]) ?_
   refine tK 2 (kS HS9.out [3, 4]) ?_
   refine rY2 1 3 (fun K hK => ?_) (fun K hK => ?_)
   ·
    go_simp
    refine (need_any ⟨#[41]⟩ (hi.below HS9.out.below) (by omega)).mono ?_
    rintro e w11 ⟨⟨i10, bad10, rfl, hr10⟩, hb11⟩
    have HS11 := hide (HS9.out.call hb11)
    have HNn11 := hide (HNn9.out.call hb11)
    clear HNn9
    clear hb11 HS9
    obtain ⟨hi10, hl10, hp10, hj10⟩ := hr10.out (by omega)
    clear hr10
    go_simp
    refine onK hK (kS HS11.out [3, 4]) ?_
    clear hK K
    refine rY2 3 5 (fun K hK => ?_) (fun K hK => ?_)
    ·
     go_simp
     refine onW hK (kS (HS11.out.al _) [3, 4]) fun W12 hW12 => ?_
     clear hK K
     have HS12 := hide (St.onto hW12 (HS11.out.al _))
     have HNn12 := hide (Nx.onto hW12 (HNn11.out.al _))
     have HNres12 := hide (show Nx w W12 [w.heap.size, w.heap.size + 1, w.heap.size + 1 + 1, w7.heap.size, w7.heap.size + 1] (Nd.of 12 ⟨#[]⟩ [d7]) (.agg #[.int .i64 12, .string ⟨#[]⟩, .slice (some ⟨w11.heap.size, 0, none⟩) 1 1]) from hW12 ▸ (Sx.join (Rx.lit (Rx.cons HNn11.out (Rx.nil)) HS11.out rfl (by simp [maxLen])) (by omega) (by decide)))
     clear HNn11
     clear hW12 HS11
     refine tK 4 (kS HS12.out [3, 4]) ?_
     refine rY 5 fun K hK => ?_
     have p1 := rG HS12 1
     go_simp
     refine onW hK (kS (HS12.out.st3 1 rfl _ _ _) [3, 4]) fun W13 hW13 => ?_
     clear hK K
     have HS13 := onS hW13 (HS12.out.st3 1 rfl _ _ _)
     have HNn13 := hide (Nx.onto hW13 (HNn12.out.st3 (by simp) _ _ _))
     have HNres13 := hide (Nx.onto hW13 (HNres12.out.st3 (by simp) _ _ _))
     clear HNn12 HNres12
     clear hW13 HS12
     clear p1
     refine rY 6 fun K hK => ?_
     have p2 := rG HS13 2
     go_simp
     refine onW hK (kS (HS13.out.st3 2 rfl _ _ _) [3, 4]) fun W14 hW14 => ?_
     clear hK K
     have HS14 := onS hW14 (HS13.out.st3 2 rfl _ _ _)
     have HNn14 := hide (Nx.onto hW14 (HNn13.out.st3 (by simp) _ _ _))
     have HNres14 := hide (Nx.onto hW14 (HNres13.out.st3 (by simp) _ _ _))
     clear HNn13 HNres13
     clear hW14 HS13
     clear p2
     refine wpAnyH_done (by kernel_rfl) ?_ _
     go_wp2_with fail
     refine namedPost fun W15 hW15 => ?_
     have HS15 := hide (St.onto hW15 HS14.out)
     have HNn15 := hide (Nx.onto hW15 HNn14.out)
     have HNres15 := hide (Nx.onto hW15 HNres14.out)
     clear HNn14 HNres14
     clear hW15 HS14
     exact ended_pn rfl rfl rfl (HS15.out.get 1 rfl) (HS15.out.get 2 rfl) ⟨⟨_, _, _, _, _, _, _, _, rfl, HNres15.out.out, ⟨by omega, by omega, by omega⟩, by rw [cnt1]; omega⟩, HS15.out.below⟩
    have p1 := rG HS11 1
    go_simp
    refine onW hK (kS (HS11.out.st3 1 rfl _ _ _) [3, 4]) fun W16 hW16 => ?_
    clear hK K
    have HS16 := onS hW16 (HS11.out.st3 1 rfl _ _ _)
    have HNn16 := hide (Nx.onto hW16 (HNn11.out.st3 (by simp) _ _ _))
    clear HNn11
    clear hW16 HS11
    clear p1
    refine rY 3 fun K hK => ?_
    go_simp
    refine onW hK (kS (HS16.out.al _) [3, 4]) fun W17 hW17 => ?_
    clear hK K
    have HS17 := hide (St.onto hW17 (HS16.out.al _))
    have HNn17 := hide (Nx.onto hW17 (HNn16.out.al _))
    have HNres17 := hide (show Nx w W17 [w.heap.size, w.heap.size + 1, w.heap.size + 1 + 1, w7.heap.size, w7.heap.size + 1] (Nd.of 12 ⟨#[]⟩ [d7]) (.agg #[.int .i64 12, .string ⟨#[]⟩, .slice (some ⟨W16.heap.size, 0, none⟩) 1 1]) from hW17 ▸ (Sx.join (Rx.lit (Rx.cons HNn16.out (Rx.nil)) HS16.out rfl (by simp [maxLen])) (by omega) (by decide)))
    clear HNn16
    clear hW17 HS16
    refine tK 4 (kS HS17.out [3, 4]) ?_
    refine rY 6 fun K hK => ?_
    have p2 := rG HS17 2
    go_simp
    refine onW hK (kS (HS17.out.st3 2 rfl _ _ _) [3, 4]) fun W18 hW18 => ?_
    clear hK K
    have HS18 := onS hW18 (HS17.out.st3 2 rfl _ _ _)
    have HNn18 := hide (Nx.onto hW18 (HNn17.out.st3 (by simp) _ _ _))
    have HNres18 := hide (Nx.onto hW18 (HNres17.out.st3 (by simp) _ _ _))
    clear HNn17 HNres17
    clear hW18 HS17
    clear p2
    refine wpAnyH_done (by kernel_rfl) ?_ _
    go_wp2_with fail
    refine namedPost fun W19 hW19 => ?_
    have HS19 := hide (St.onto hW19 HS18.out)
    have HNn19 := hide (Nx.onto hW19 HNn18.out)
    have HNres19 := hide (Nx.onto hW19 HNres18.out)
    clear HNn18 HNres18
    clear hW19 HS18
    exact ended_pn rfl rfl rfl (HS19.out.get 1 rfl) (HS19.out.get 2 rfl) ⟨⟨_, _, _, _, _, _, _, _, rfl, HNres19.out.out, ⟨by omega, by omega, by omega⟩, by rw [cnt1]; omega⟩, HS19.out.below⟩
   go_simp
   refine onW hK (kS (HS9.out.al _) [3, 4]) fun W20 hW20 => ?_
   clear hK K
   have HS20 := hide (St.onto hW20 (HS9.out.al _))
   have HNn20 := hide (Nx.onto hW20 (HNn9.out.al _))
   have HNres20 := hide (show Nx w W20 [w.heap.size, w.heap.size + 1, w.heap.size + 1 + 1, w7.heap.size, w7.heap.size + 1] (Nd.of 12 ⟨#[]⟩ [d7]) (.agg #[.int .i64 12, .string ⟨#[]⟩, .slice (some ⟨W9.heap.size, 0, none⟩) 1 1]) from hW20 ▸ (Sx.join (Rx.lit (Rx.cons HNn9.out (Rx.nil)) HS9.out rfl (by simp [maxLen])) (by omega) (by decide)))
   clear HNn9
   clear hW20 HS9
   refine tK 4 (kS HS20.out [3, 4]) ?_
   refine rY 1 fun K hK => ?_
   go_simp
   refine (need_any ⟨#[41]⟩ (hi.below HS20.out.below) (by omega)).mono ?_
   rintro e w22 ⟨⟨i21, bad21, rfl, hr21⟩, hb22⟩
   have HS22 := hide (HS20.out.call hb22)
   have HNn22 := hide (HNn20.out.call hb22)
   clear HNn20
   have HNres22 := hide (HNres20.out.call hb22)
   clear HNres20
   clear hb22 HS20
   obtain ⟨hi21, hl21, hp21, hj21⟩ := hr21.out (by omega)
   clear hr21
   go_simp
   refine onK hK (kS HS22.out [3, 4]) ?_
   clear hK K
   refine rY 5 fun K hK => ?_
   have p1 := rG HS22 1
   go_simp
   refine onW hK (kS (HS22.out.st3 1 rfl _ _ _) [3, 4]) fun W23 hW23 => ?_
   clear hK K
   have HS23 := onS hW23 (HS22.out.st3 1 rfl _ _ _)
   have HNn23 := hide (Nx.onto hW23 (HNn22.out.st3 (by simp) _ _ _))
   have HNres23 := hide (Nx.onto hW23 (HNres22.out.st3 (by simp) _ _ _))
   clear HNn22 HNres22
   clear hW23 HS22
   clear p1
   refine rY 6 fun K hK => ?_
   have p2 := rG HS23 2
   go_simp
   refine onW hK (kS (HS23.out.st3 2 rfl _ _ _) [3, 4]) fun W24 hW24 => ?_
   clear hK K
   have HS24 := onS hW24 (HS23.out.st3 2 rfl _ _ _)
   have HNn24 := hide (Nx.onto hW24 (HNn23.out.st3 (by simp) _ _ _))
   have HNres24 := hide (Nx.onto hW24 (HNres23.out.st3 (by simp) _ _ _))
   clear HNn23 HNres23
   clear hW24 HS23
   clear p2
   refine wpAnyH_done (by kernel_rfl) ?_ _
   go_wp2_with fail
   refine namedPost fun W25 hW25 => ?_
   have HS25 := hide (St.onto hW25 HS24.out)
   have HNn25 := hide (Nx.onto hW25 HNn24.out)
   have HNres25 := hide (Nx.onto hW25 HNres24.out)
   clear HNn24 HNres24
   clear hW25 HS24
   exact ended_pn rfl rfl rfl (HS25.out.get 1 rfl) (HS25.out.get 2 rfl) ⟨⟨_, _, _, _, _, _, _, _, rfl, HNres25.out.out, ⟨by omega, by omega, by omega⟩, by rw [cnt1]; omega⟩, HS25.out.below⟩
  clear hq3
  go_wp2_with fail
  refine (op_any ⟨#[91]⟩ (hi.below HS2.out.below)).mono ?_
  rintro e w26 ⟨rfl, hb26⟩
  have HS26 := hide (HS2.out.call hb26)
  clear hb26 HS2
  clear p0
  have p0 := rD HS26
  cases hq27 : opB (tokAt l i bad) ⟨#[91]⟩
  case true =>
   obtain ⟨rfl, hlt28⟩ := opB_in hq27
   clear hq27
   go_wp2_with fail
   refine (next_in (n := l.length) ⟨_, _, _, rfl⟩ (by omega) hlen).mono ?_
   rintro e w30 ⟨⟨j29, rfl, hj29, hl29, hp29⟩, hb30⟩
   have HS30 := hide (HS26.out.call hb30)
   clear hb30 HS26
   clear p0
   have p0 := rD HS30
   go_wp2_with fail
   have lv31 := lV HS30
   refine named fun W31 hW31 => ?_
   have HS31 := onS hW31 HS30.out.va
   clear hW31 HS30
   clear p0
   refine (op_any ⟨#[93]⟩ (hi.below HS31.out.below)).mono ?_
   rintro e w32 ⟨rfl, hb32⟩
   have HS32 := hide (HS31.out.call hb32)
   clear hb32 HS31
   have p0 := rD HS32
   cases hq33 : opB (tokAt l j29 false) ⟨#[93]⟩
   case true =>
    have hlt34 := (opB_in hq33).2
    clear hq33
    go_wp2_with fail
    refine (next_in (n := l.length) ⟨_, _, _, rfl⟩ (by omega) hlen).mono ?_
    rintro e w36 ⟨⟨j35, rfl, hj35, hl35, hp35⟩, hb36⟩
    have HS36 := hide (HS32.out.call hb36)
    clear hb36 HS32
    clear p0
    have p0 := rD HS36
    go_wp2_with fail
    refine namedPost fun W37 hW37 => ?_
    have HS37 := onS hW37 ((HS36.out.st3 1 rfl _ _ _).st3 2 rfl _ _ _)
    have HNres37 := hide (show Nx w W37 [w.heap.size, w.heap.size + 1, w.heap.size + 1 + 1, w30.heap.size] (Nd.mk 9 ⟨#[]⟩ .nil) (.agg #[.int .i64 9, .string ⟨#[]⟩, .slice none 0 0]) from hW37 ▸ (Nx.leaf (by omega) (by decide)))
    clear hW37 HS36
    clear p0
    exact ended_pn rfl rfl rfl (HS37.out.get 1 rfl) (HS37.out.get 2 rfl) ⟨⟨_, _, _, _, _, _, _, _, rfl, HNres37.out.out, ⟨by omega, by omega, by omega⟩, by rw [cntLeaf]; omega⟩, HS37.out.below⟩
   clear hq33
   go_wp2_with fail
   refine (HK.out.pipe (hi.below HS32.out.below) (by omega) (by omega)).mono ?_
   rintro e w38 ⟨⟨i38, bad38, d38, k38, s38, y38, m38, c38, rfl, hn38, ⟨hi38, hl38, hp38⟩, hc38⟩, hb38⟩
   have HS38 := hide (HS32.out.call hb38)
   have HNx38 := hide (show Nx w w38 [w.heap.size, w.heap.size + 1, w.heap.size + 1 + 1, w30.heap.size] _ _ from Nx.made hn38 HS32.out)
   clear hn38 hb38 HS32
   clear p0
   have p0 := rD HS38
   go_wp2_with fail
   have lv39 := lV HS38
   refine namedWp fun W39 hW39 => ?_
   have HS39 := onS hW39 HS38.out.va.va
   have HNx39 := hide (Nx.onto hW39 ((HNx38.out.var (g := w38.heap.size) (by simp) _).var (g := w38.heap.size + 1) (by simp) _))
   clear HNx38
   clear hW39 HS38
   clear p0
   refine rgn HS39.out [4, 5] fun W40 hW40 => ?_
   have HS40 := hide (St.onto hW40 HS39.out.dr)
   have HNx40 := hide (Nx.onto hW40 HNx39.out.dr)
   clear HNx39
   clear hW40 HS39
   refine tK 0 (kS HS40.out [4, 5]) ?_
   refine tK 2 (kS HS40.out [4, 5]) ?_
   refine rY2 1 3 (fun K hK => ?_) (fun K hK => ?_)
   ·
    go_simp
    refine (need_any ⟨#[93]⟩ (hi.below HS40.out.below) (by omega)).mono ?_
    rintro e w42 ⟨⟨i41, bad41, rfl, hr41⟩, hb42⟩
    have HS42 := hide (HS40.out.call hb42)
    have HNx42 := hide (HNx40.out.call hb42)
    clear HNx40
    clear hb42 HS40
    obtain ⟨hi41, hl41, hp41, hj41⟩ := hr41.out (by omega)
    clear hr41
    go_simp
    refine onK hK (kS HS42.out [4, 5]) ?_
    clear hK K
    refine rY2 3 5 (fun K hK => ?_) (fun K hK => ?_)
    ·
     go_simp
     refine onW hK (kS (HS42.out.al _) [4, 5]) fun W43 hW43 => ?_
     clear hK K
     have HS43 := hide (St.onto hW43 (HS42.out.al _))
     have HNx43 := hide (Nx.onto hW43 (HNx42.out.al _))
     have HNres43 := hide (show Nx w W43 [w.heap.size, w.heap.size + 1, w.heap.size + 1 + 1, w30.heap.size, w38.heap.size, w38.heap.size + 1] (Nd.of 9 ⟨#[]⟩ [d38]) (.agg #[.int .i64 9, .string ⟨#[]⟩, .slice (some ⟨w42.heap.size, 0, none⟩) 1 1]) from hW43 ▸ (Sx.join (Rx.lit (Rx.cons HNx42.out (Rx.nil)) HS42.out rfl (by simp [maxLen])) (by omega) (by decide)))
     clear HNx42
     clear hW43 HS42
     refine tK 4 (kS HS43.out [4, 5]) ?_
     refine rY 5 fun K hK => ?_
     have p1 := rG HS43 1
     go_simp
     refine onW hK (kS (HS43.out.st3 1 rfl _ _ _) [4, 5]) fun W44 hW44 => ?_
     clear hK K
     have HS44 := onS hW44 (HS43.out.st3 1 rfl _ _ _)
     have HNx44 := hide (Nx.onto hW44 (HNx43.out.st3 (by simp) _ _ _))
     have HNres44 := hide (Nx.onto hW44 (HNres43.out.st3 (by simp) _ _ _))
     clear HNx43 HNres43
     clear hW44 HS43
     clear p1
     refine rY 6 fun K hK => ?_
     have p2 := rG HS44 2
     go_simp
     refine onW hK (kS (HS44.out.st3 2 rfl _ _ _) [4, 5]) fun W45 hW45 => ?_
     clear hK K
     have HS45 := onS hW45 (HS44.out.st3 2 rfl _ _ _)
     have HNx45 := hide (Nx.onto hW45 (HNx44.out.st3 (by simp) _ _ _))
     have HNres45 := hide (Nx.onto hW45 (HNres44.out.st3 (by simp) _ _ _))
     clear HNx44 HNres44
     clear hW45 HS44
     clear p2
     refine wpAnyH_done (by kernel_rfl) ?_ _
     go_wp2_with fail
     refine namedPost fun W46 hW46 => ?_
     have HS46 := hide (St.onto hW46 HS45.out)
     have HNx46 := hide (Nx.onto hW46 HNx45.out)
     have HNres46 := hide (Nx.onto hW46 HNres45.out)
     clear HNx45 HNres45
     clear hW46 HS45
     exact ended_pn rfl rfl rfl (HS46.out.get 1 rfl) (HS46.out.get 2 rfl) ⟨⟨_, _, _, _, _, _, _, _, rfl, HNres46.out.out, ⟨by omega, by omega, by omega⟩, by rw [cnt1]; omega⟩, HS46.out.below⟩
    have p1 := rG HS42 1
    go_simp
    refine onW hK (kS (HS42.out.st3 1 rfl _ _ _) [4, 5]) fun W47 hW47 => ?_
    clear hK K
    have HS47 := onS hW47 (HS42.out.st3 1 rfl _ _ _)
    have HNx47 := hide (Nx.onto hW47 (HNx42.out.st3 (by simp) _ _ _))
    clear HNx42
    clear hW47 HS42
    clear p1
    refine rY 3 fun K hK => ?_
    go_simp
    refine onW hK (kS (HS47.out.al _) [4, 5]) fun W48 hW48 => ?_
    clear hK K
    have HS48 := hide (St.onto hW48 (HS47.out.al _))
    have HNx48 := hide (Nx.onto hW48 (HNx47.out.al _))
    have HNres48 := hide (show Nx w W48 [w.heap.size, w.heap.size + 1, w.heap.size + 1 + 1, w30.heap.size, w38.heap.size, w38.heap.size + 1] (Nd.of 9 ⟨#[]⟩ [d38]) (.agg #[.int .i64 9, .string ⟨#[]⟩, .slice (some ⟨W47.heap.size, 0, none⟩) 1 1]) from hW48 ▸ (Sx.join (Rx.lit (Rx.cons HNx47.out (Rx.nil)) HS47.out rfl (by simp [maxLen])) (by omega) (by decide)))
    clear HNx47
    clear hW48 HS47
    refine tK 4 (kS HS48.out [4, 5]) ?_
    refine rY 6 fun K hK => ?_
    have p2 := rG HS48 2
    go_simp
    refine onW hK (kS (HS48.out.st3 2 rfl _ _ _) [4, 5]) fun W49 hW49 => ?_
    clear hK K
    have HS49 := onS hW49 (HS48.out.st3 2 rfl _ _ _)
    have HNx49 := hide (Nx.onto hW49 (HNx48.out.st3 (by simp) _ _ _))
    have HNres49 := hide (Nx.onto hW49 (HNres48.out.st3 (by simp) _ _ _))
    clear HNx48 HNres48
    clear hW49 HS48
    clear p2
    refine wpAnyH_done (by kernel_rfl) ?_ _
    go_wp2_with fail
    refine namedPost fun W50 hW50 => ?_
    have HS50 := hide (St.onto hW50 HS49.out)
    have HNx50 := hide (Nx.onto hW50 HNx49.out)
    have HNres50 := hide (Nx.onto hW50 HNres49.out)
    clear HNx49 HNres49
    clear hW50 HS49
    exact ended_pn rfl rfl rfl (HS50.out.get 1 rfl) (HS50.out.get 2 rfl) ⟨⟨_, _, _, _, _, _, _, _, rfl, HNres50.out.out, ⟨by omega, by omega, by omega⟩, by rw [cnt1]; omega⟩, HS50.out.below⟩
   go_simp
   refine onW hK (kS (HS40.out.al _) [4, 5]) fun W51 hW51 => ?_
   clear hK K
   have HS51 := hide (St.onto hW51 (HS40.out.al _))
   have HNx51 := hide (Nx.onto hW51 (HNx40.out.al _))
   have HNres51 := hide (show Nx w W51 [w.heap.size, w.heap.size + 1, w.heap.size + 1 + 1, w30.heap.size, w38.heap.size, w38.heap.size + 1] (Nd.of 9 ⟨#[]⟩ [d38]) (.agg #[.int .i64 9, .string ⟨#[]⟩, .slice (some ⟨W40.heap.size, 0, none⟩) 1 1]) from hW51 ▸ (Sx.join (Rx.lit (Rx.cons HNx40.out (Rx.nil)) HS40.out rfl (by simp [maxLen])) (by omega) (by decide)))
   clear HNx40
   clear hW51 HS40
   refine tK 4 (kS HS51.out [4, 5]) ?_
   refine rY 1 fun K hK => ?_
   go_simp
   refine (need_any ⟨#[93]⟩ (hi.below HS51.out.below) (by omega)).mono ?_
   rintro e w53 ⟨⟨i52, bad52, rfl, hr52⟩, hb53⟩
   have HS53 := hide (HS51.out.call hb53)
   have HNx53 := hide (HNx51.out.call hb53)
   clear HNx51
   have HNres53 := hide (HNres51.out.call hb53)
   clear HNres51
   clear hb53 HS51
   obtain ⟨hi52, hl52, hp52, hj52⟩ := hr52.out (by omega)
   clear hr52
   go_simp
   refine onK hK (kS HS53.out [4, 5]) ?_
   clear hK K
   refine rY 5 fun K hK => ?_
   have p1 := rG HS53 1
   go_simp
   refine onW hK (kS (HS53.out.st3 1 rfl _ _ _) [4, 5]) fun W54 hW54 => ?_
   clear hK K
   have HS54 := onS hW54 (HS53.out.st3 1 rfl _ _ _)
   have HNx54 := hide (Nx.onto hW54 (HNx53.out.st3 (by simp) _ _ _))
   have HNres54 := hide (Nx.onto hW54 (HNres53.out.st3 (by simp) _ _ _))
   clear HNx53 HNres53
   clear hW54 HS53
   clear p1
   refine rY 6 fun K hK => ?_
   have p2 := rG HS54 2
   go_simp
   refine onW hK (kS (HS54.out.st3 2 rfl _ _ _) [4, 5]) fun W55 hW55 => ?_
   clear hK K
   have HS55 := onS hW55 (HS54.out.st3 2 rfl _ _ _)
   have HNx55 := hide (Nx.onto hW55 (HNx54.out.st3 (by simp) _ _ _))
   have HNres55 := hide (Nx.onto hW55 (HNres54.out.st3 (by simp) _ _ _))
   clear HNx54 HNres54
   clear hW55 HS54
   clear p2
   refine wpAnyH_done (by kernel_rfl) ?_ _
   go_wp2_with fail
   refine namedPost fun W56 hW56 => ?_
   have HS56 := hide (St.onto hW56 HS55.out)
   have HNx56 := hide (Nx.onto hW56 HNx55.out)
   have HNres56 := hide (Nx.onto hW56 HNres55.out)
   clear HNx55 HNres55
   clear hW56 HS55
   exact ended_pn rfl rfl rfl (HS56.out.get 1 rfl) (HS56.out.get 2 rfl) ⟨⟨_, _, _, _, _, _, _, _, rfl, HNres56.out.out, ⟨by omega, by omega, by omega⟩, by rw [cnt1]; omega⟩, HS56.out.below⟩
  clear hq27
  go_wp2_with fail
  refine (op_any ⟨#[123]⟩ (hi.below HS26.out.below)).mono ?_
  rintro e w57 ⟨rfl, hb57⟩
  have HS57 := hide (HS26.out.call hb57)
  clear hb57 HS26
  clear p0
  have p0 := rD HS57
  cases hq58 : opB (tokAt l i bad) ⟨#[123]⟩
  case false =>
   clear hq58
   go_wp2_with fail
   refine (wrong_any _ _ _ _ ⟨_, _, _, rfl⟩).mono ?_
   rintro e w60 ⟨rfl, hb60⟩
   have HS60 := hide (HS57.out.call hb60)
   clear hb60 HS57
   clear p0
   have p0 := rD HS60
   go_wp2_with fail
   have hwr59 := left_wrong l.length i bad
   refine namedPost fun W61 hW61 => ?_
   have HS61 := onS hW61 ((HS60.out.st3 1 rfl _ _ _).st3 2 rfl _ _ _)
   have HNres61 := hide (show Nx w W61 [w.heap.size, w.heap.size + 1, w.heap.size + 1 + 1] (Nd.mk 0 ⟨#[]⟩ .nil) (.agg #[.int .i64 0, .string ⟨#[]⟩, .slice none 0 0]) from hW61 ▸ (Nx.leaf (by omega) (by decide)))
   clear hW61 HS60
   clear p0
   exact ended_pn rfl rfl rfl (HS61.out.get 1 rfl) (HS61.out.get 2 rfl) ⟨⟨_, _, _, _, _, _, _, _, rfl, HNres61.out.out, ⟨by omega, by omega, by omega⟩, by rw [cntLeaf]; omega⟩, HS61.out.below⟩
  obtain ⟨rfl, hlt62⟩ := opB_in hq58
  clear hq58
  go_wp2_with fail
  have lv63 := lV HS57
  refine named fun W63 hW63 => ?_
  have HS63 := onS hW63 HS57.out.va
  clear hW63 HS57
  clear p0
  refine (next_in (n := l.length) ⟨_, _, _, rfl⟩ (by omega) hlen).mono ?_
  rintro e w65 ⟨⟨j64, rfl, hj64, hl64, hp64⟩, hb65⟩
  have HS65 := hide (HS63.out.call hb65)
  clear hb65 HS63
  have p0 := rD HS65
  go_wp2_with fail
  refine named fun W66 hW66 => ?_
  have HS66 := onS hW66 (HS65.out.st3 0 rfl _ _ _)
  clear hW66 HS65
  clear p0
  refine (op_any ⟨#[125]⟩ (hi.below HS66.out.below)).mono ?_
  rintro e w67 ⟨rfl, hb67⟩
  have HS67 := hide (HS66.out.call hb67)
  clear hb67 HS66
  have p0 := rD HS67
  cases hq68 : opB (tokAt l j64 false) ⟨#[125]⟩
  case true =>
   have hlt69 := (opB_in hq68).2
   clear hq68
   go_wp2_with fail
   have HNn70 := hide (show Nx w w67 [w.heap.size, w.heap.size + 1, w.heap.size + 1 + 1, w57.heap.size] (Nd.mk 10 ⟨#[]⟩ .nil) (.agg #[.int .i64 10, .string ⟨#[]⟩, .slice none 0 0]) from Nx.leaf (by omega) (by decide))
   refine namedWp fun W71 hW71 => ?_
   have HS71 := hide (St.onto hW71 HS67.out)
   have HNn71 := hide (Nx.onto hW71 HNn70.out)
   clear HNn70
   clear hW71 HS67
   clear p0
   refine rgn HS71.out [0, 3] fun W72 hW72 => ?_
   have HS72 := hide (St.onto hW72 HS71.out.dr)
   have HNn72 := hide (Nx.onto hW72 HNn71.out.dr)
   clear HNn71
   clear hW72 HS71
   refine tK 0 (kS HS72.out [0, 3]) ?_
   refine tK 2 (kS HS72.out [0, 3]) ?_
   refine rY 1 fun K hK => ?_
   go_simp
   refine (next_in (n := l.length) ⟨_, _, _, rfl⟩ (by omega) hlen).mono ?_
   rintro e w74 ⟨⟨j73, rfl, hj73, hl73, hp73⟩, hb74⟩
   have HS74 := hide (HS72.out.call hb74)
   have HNn74 := hide (HNn72.out.call hb74)
   clear HNn72
   clear hb74 HS72
   go_simp
   refine onK hK (kS HS74.out [0, 3]) ?_
   clear hK K
   refine rY 3 fun K hK => ?_
   have p1 := rG HS74 1
   go_simp
   refine onW hK (kS (HS74.out.st3 1 rfl _ _ _) [0, 3]) fun W75 hW75 => ?_
   clear hK K
   have HS75 := onS hW75 (HS74.out.st3 1 rfl _ _ _)
   have HNn75 := hide (Nx.onto hW75 (HNn74.out.st3 (by simp) _ _ _))
   clear HNn74
   clear hW75 HS74
   clear p1
   refine rY 4 fun K hK => ?_
   have p2 := rG HS75 2
   go_simp
   refine onW hK (kS (HS75.out.st3 2 rfl _ _ _) [0, 3]) fun W76 hW76 => ?_
   clear hK K
   have HS76 := onS hW76 (HS75.out.st3 2 rfl _ _ _)
   have HNn76 := hide (Nx.onto hW76 (HNn75.out.st3 (by simp) _ _ _))
   clear HNn75
   clear hW76 HS75
   clear p2
   refine wpAnyH_done (by kernel_rfl) ?_ _
   go_wp2_with fail
   refine namedPost fun W77 hW77 => ?_
   have HS77 := hide (St.onto hW77 HS76.out)
   have HNn77 := hide (Nx.onto hW77 HNn76.out)
   clear HNn76
   clear hW77 HS76
   exact ended_pn rfl rfl rfl (HS77.out.get 1 rfl) (HS77.out.get 2 rfl) ⟨⟨_, _, _, _, _, _, _, _, rfl, HNn77.out.out, ⟨by omega, by omega, by omega⟩, by rw [cntLeaf]; omega⟩, HS77.out.below⟩
  clear hq68
  go_wp2_with fail
  clear p0
  go_loopw [] (fun wr => ∃ (x : Nat) (y : Option Addr) (q c : Nat) (ds : List Nd), St w wr [(w.heap.size, 86, #[.slice a l.length cap, .int .i64 x, .bool false]), (w.heap.size + 1, 86, #[.slice none 0 0, .int .i64 0, .bool false]), (w.heap.size + 1 + 1, 24, #[.int .i64 0, .string ⟨#[]⟩, .slice none 0 0]), (w57.heap.size, 24, #[.int .i64 10, .string ⟨#[]⟩, .slice y q c])] ∧ Hx w wr [w.heap.size, w.heap.size + 1, w.heap.size + 1 + 1, w57.heap.size] (.slice y q c) ds ∧ (i + 1 ≤ x ∧ x ≤ l.length ∧ leftP l.length x false < leftP l.length i false ∧ cntL ds + 8 * (i + 1) ≤ 8 * x)) (fun wr => leftAt l.length w.heap.size wr)
  case atStart => exact ⟨j64, none, 0, 0, [], HS67.out, Hx.nil _ _ _, by omega, by omega, by omega, by rw [cntL_nil]; omega⟩
  obtain ⟨x, y, q, c, ds, hS, hH, hx1, hx2, hx3, hx4⟩ := hrel
  have hMp := hS.get 0 rfl
  have HSr := hide hS
  have HRk := hide hH
  clear hS hH HS67
  have p0 := rD HSr
  go_wp2_with fail
  refine (HK.out.pair (hi.below HSr.out.below) (by omega) (by omega)).mono ?_
  rintro e w78 ⟨⟨i78, bad78, d78, k78, s78, y78, m78, c78, rfl, hn78, ⟨hi78, hl78, hp78⟩, hc78⟩, hb78⟩
  have HS78 := hide (HSr.out.call hb78)
  have HRk78 := hide (Px.made HRk.out hn78 hb78 HSr.out rfl)
  clear HRk
  have HNx78 := hide (show Nx w w78 [w.heap.size, w.heap.size + 1, w.heap.size + 1 + 1, w57.heap.size] _ _ from Nx.made hn78 HSr.out)
  clear hn78 hb78 HSr
  clear p0
  have p0 := rD HS78
  have hcl := len_cntL ds
  have lv79 := lV HS78
  have hSt79 : St w ((w78.alloc (.cells #[.slice a l.length cap, .int .i64 i78, .bool bad78] 86)).alloc (.cells #[.int .i64 k78, .string s78, .slice y78 m78 c78] 24)) [pe w.heap.size a l cap x false, pz (w.heap.size + 1), nz (w.heap.size + 1 + 1), ne w57.heap.size 10 ⟨#[]⟩ y q c, pe w78.heap.size a l cap i78 bad78, ne (w78.heap.size + 1) k78 s78 y78 m78 c78] := ((HS78.out.var 86 _ (by simp)).var 24 _ (by simp))
  have hPx79 : Px w ((w78.alloc (.cells #[.slice a l.length cap, .int .i64 i78, .bool bad78] 86)).alloc (.cells #[.int .i64 k78, .string s78, .slice y78 m78 c78] 24)) [w.heap.size, w.heap.size + 1, w.heap.size + 1 + 1, w57.heap.size, w78.heap.size, w78.heap.size + 1] (.slice y q c) ds [d78] [.int .i64 k78, .string s78, .slice y78 m78 c78] := ((HRk78.out.var (g := w78.heap.size) (by simp) _).var (g := w78.heap.size + 1) (by simp) _)
  obtain ⟨v79, w79, hr79, hH79, hS79⟩ := hPx79.snoc hSt79 rfl (by simp only [List.length_cons, List.length_nil]; omega) (by simp)
  simp only [World.size_alloc, List.length_cons, List.length_nil, Nat.zero_add] at hr79
  obtain ⟨y79, n79, c79, rfl⟩ := hH79.form'
  clear hSt79 hPx79 HS78 HRk78 HNx78
  have HS79 := hide hS79
  have HRk79 := hide hH79
  clear hS79 hH79
  have rr0 := rD HS79
  go_wp2_with (at_builtin; refine wpList_append_run rfl _ _ (by rfl) (by rfl) (by rfl) (by rfl) hr79 ?_)
  clear hr79 p0
  refine named fun W80 hW80 => ?_
  have HS80 := onS hW80 (HS79.out.st 3 rfl 2 _)
  have HRk80 := hide (Px.onto hW80 (HRk79.out.st (by simp) _ _))
  clear HRk79
  clear hW80 HS79
  clear rr0
  refine (op_any ⟨#[44]⟩ (hi.below HS80.out.below)).mono ?_
  rintro e w81 ⟨rfl, hb81⟩
  have HS81 := hide (HS80.out.call hb81)
  have HRk81 := hide (HRk80.out.call hb81)
  clear HRk80
  clear hb81 HS80
  have p0 := rD HS81
  cases hq82 : opB (tokAt l i78 bad78) ⟨#[44]⟩
  case false =>
   clear hq82
   go_wp2_with fail
   refine namedWp fun W84 hW84 => ?_
   have HS84 := hide (St.onto hW84 HS81.out)
   have HRk84 := hide (Px.onto hW84 HRk81.out)
   clear HRk81
   clear hW84 HS81
   clear p0
   have HNn83 := hide (show Nx w W84 [w.heap.size, w.heap.size + 1, w.heap.size + 1 + 1, w57.heap.size, w78.heap.size, w78.heap.size + 1] (Nd.of 10 ⟨#[]⟩ (ds ++ [d78])) (.agg #[.int .i64 10, .string ⟨#[]⟩, .slice y79 n79 c79]) from Px.node HRk84.out (by omega) (by decide))
   clear HRk84
   refine namedWp fun W85 hW85 => ?_
   have HS85 := hide (St.onto hW85 HS84.out)
   have HNn85 := hide (Nx.onto hW85 HNn83.out)
   clear HNn83
   clear hW85 HS84
   refine rgn HS85.out [4, 3] fun W86 hW86 => ?_
   have HS86 := hide (St.onto hW86 HS85.out.dr)
   have HNn86 := hide (Nx.onto hW86 HNn85.out.dr)
   clear HNn85
   clear hW86 HS85
   refine tK 0 (kS HS86.out [4, 3]) ?_
   refine tK 2 (kS HS86.out [4, 3]) ?_
   refine rY 1 fun K hK => ?_
   go_simp
   refine (need_any ⟨#[125]⟩ (hi.below HS86.out.below) (by omega)).mono ?_
   rintro e w88 ⟨⟨i87, bad87, rfl, hr87⟩, hb88⟩
   have HS88 := hide (HS86.out.call hb88)
   have HNn88 := hide (HNn86.out.call hb88)
   clear HNn86
   clear hb88 HS86
   obtain ⟨hi87, hl87, hp87, hj87⟩ := hr87.out (by omega)
   clear hr87
   go_simp
   refine onK hK (kS HS88.out [4, 3]) ?_
   clear hK K
   refine rY 3 fun K hK => ?_
   have p1 := rG HS88 1
   go_simp
   refine onW hK (kS (HS88.out.st3 1 rfl _ _ _) [4, 3]) fun W89 hW89 => ?_
   clear hK K
   have HS89 := onS hW89 (HS88.out.st3 1 rfl _ _ _)
   have HNn89 := hide (Nx.onto hW89 (HNn88.out.st3 (by simp) _ _ _))
   clear HNn88
   clear hW89 HS88
   clear p1
   refine rY 4 fun K hK => ?_
   have p2 := rG HS89 2
   go_simp
   refine onW hK (kS (HS89.out.st3 2 rfl _ _ _) [4, 3]) fun W90 hW90 => ?_
   clear hK K
   have HS90 := onS hW90 (HS89.out.st3 2 rfl _ _ _)
   have HNn90 := hide (Nx.onto hW90 (HNn89.out.st3 (by simp) _ _ _))
   clear HNn89
   clear hW90 HS89
   clear p2
   refine wpAnyH_done (by kernel_rfl) ?_ _
   go_wp2_with fail
   refine namedPost fun W91 hW91 => ?_
   have HS91 := hide (St.onto hW91 HS90.out)
   have HNn91 := hide (Nx.onto hW91 HNn90.out)
   clear HNn90
   clear hW91 HS90
   exact ended_pn rfl rfl rfl (HS91.out.get 1 rfl) (HS91.out.get 2 rfl) ⟨⟨_, _, _, _, _, _, _, _, rfl, HNn91.out.out, ⟨by omega, by omega, by omega⟩, by rw [cntOf, cntL_app, cntL_one]; omega⟩, HS91.out.below⟩
  obtain ⟨rfl, hlt92⟩ := opB_in hq82
  clear hq82
  go_wp2_with fail
  refine (next_in (n := l.length) ⟨_, _, _, rfl⟩ (by omega) hlen).mono ?_
  rintro e w94 ⟨⟨j93, rfl, hj93, hl93, hp93⟩, hb94⟩
  have HS94 := hide (HS81.out.call hb94)
  have HRk94 := hide (HRk81.out.call hb94)
  clear HRk81
  clear hb94 HS81
  clear p0
  have p0 := rD HS94
  go_wp2_with fail
  exact ⟨⟨j93, _, _, _, _, (HS94.out.st3 0 rfl _ _ _).cut 4 rfl, (HRk94.out.st3 (by simp) _ _ _).fewer (by simp), by omega, by omega, by omega, by rw [cntL_app, cntL_one]; omega⟩, by rw [leftAt_of ((HS94.out.st3 0 rfl _ _ _).get 0 rfl), leftAt_of hMp]; omega⟩
end Go.Proofs.YtacgmmpdichlmaaGreat
