/-
  The reference's bring: what a module asks for. Its condition: the parser's items lie in memory.
-/
import Derived.Test.YtacgmmpdichlmaaGreatM04
namespace Go.Proofs.YtacgmmpdichlmaaGreat
open Go.RowKit
attribute [local go_sem ↓] Go.wp_at_zero Go.wp_at_succ

set_option maxRecDepth 4000 in
set_option maxHeartbeats 4000000 in
theorem bring_k {l : List Tk} {a : Option Addr} {cap m : Nat} (K : Kn l a cap m) {i : Nat}  {w : World} (hi : Its w a l) (hlt : i < l.length) (hm : leftP l.length i false ≤ m) : Calls Tryz.prog 70 #[.agg #[.slice a l.length cap, .int .i64 i, .bool false]] w (PN l a cap w i false 0) := by
  have HK := hide K
  have hlen := hi.2.1
  have hat : i ≤ l.length := by omega
  clear K
  obtain ⟨ab, ao, rfl, -, -, -⟩ := hi.1.get hlt
  go_enter Tryz.func70, Tryz.ntmps70
  go_wp2_with fail
  refine named fun W1 hW1 => ?_
  have HS1 := onS hW1 (St.nil w).va.va.va
  clear hW1
  obtain ⟨t2, ht2⟩ : ∃ t, tokAt l i false = t := ⟨_, rfl⟩
  have hok2 := tokAt_ok hi.2.2 i false
  rw [ht2] at hok2
  obtain ⟨hkb2, hz2, hone2⟩ := hok2
  have HT2 := hide ht2
  clear ht2
  have Hone2 := hide hone2
  clear hone2
  have hfa2 := fieldT0 t2.kind t2.text
  have hfb2 := fieldT1 t2.kind t2.text
  refine (tok_any (hi.below HS1.out.below)).mono ?_
  rintro e w3 ⟨rfl, hb3⟩
  rw [HT2.out]
  have HS3 := hide (HS1.out.call hb3)
  clear hb3 HS1
  have p0 := rD HS3
  go_wp2_with fail
  have lv4 := lV HS3
  refine named fun W4 hW4 => ?_
  have HS4 := onS hW4 HS3.out.va
  clear hW4 HS3
  clear p0
  refine (next_in (n := l.length) ⟨_, _, _, rfl⟩ (by omega) hlen).mono ?_
  rintro e w6 ⟨⟨j5, rfl, hj5, hl5, hp5⟩, hb6⟩
  have HS6 := hide (HS4.out.call hb6)
  clear hb6 HS4
  have p0 := rD HS6
  go_wp2_with fail
  have lv7 := lV HS6
  refine named fun W7 hW7 => ?_
  have HS7 := onS hW7 HS6.out.va
  clear hW7 HS6
  clear p0
  obtain ⟨t8, ht8⟩ : ∃ t, tokAt l j5 false = t := ⟨_, rfl⟩
  have hok8 := tokAt_ok hi.2.2 j5 false
  rw [ht8] at hok8
  obtain ⟨hkb8, hz8, hone8⟩ := hok8
  have HT8 := hide ht8
  clear ht8
  have Hone8 := hide hone8
  clear hone8
  have hfa8 := fieldT0 t8.kind t8.text
  have hfb8 := fieldT1 t8.kind t8.text
  refine (tok_any (hi.below HS7.out.below)).mono ?_
  rintro e w9 ⟨rfl, hb9⟩
  rw [HT8.out]
  have HS9 := hide (HS7.out.call hb9)
  clear hb9 HS7
  have p0 := rD HS9
  by_cases hk10 : t8.kind = 7
  ·
   have he11 : (t8.kind == 7) = true := by simpa using hk10
   have hn11 : (t8.kind != 7) = false := by simpa using hk10
   have HK11 := hide hk10
   clear hk10
   have hlt12 := (tokAt_kind (l := l) (i := j5) (b := false) (by rw [HT8.out, HK11.out]; decide)).2
   go_wp2_with fail
   refine namedWp fun W13 hW13 => ?_
   have HS13 := hide (St.onto hW13 HS9.out)
   clear hW13 HS9
   clear p0
   go_loopw [6] (fun z wr => ∃ k : Nat, z = .int .i64 k ∧ j5 + 1 ≤ k ∧ k ≤ l.length + 1 ∧ wr = W13) (fun z _ => l.length + 1 - (intOf z).toNat)
   case atStart => exact ⟨j5 + 1, by go_num, by omega, by omega, rfl⟩
   obtain ⟨k, rfl, hk1, hk2, rfl⟩ := hrel
   have p0 := rD HS13
   by_cases hlt2 : k < l.length
   ·
    obtain ⟨b9, o9, hab, -, hc0, -⟩ := ((hi.below HS13.out.below)).1.get hlt2
    obtain ⟨z, hz⟩ : ∃ z, l[k].kind = z := ⟨_, rfl⟩
    rw [hz] at hc0
    clear hz
    cases hab
    by_cases hz11 : z = 11
    ·
     have hz1 : (z != 11) = false := by simpa using hz11
     clear hz11
     go_wp2_with fail
     refine (HK.out.str (hi.below HS13.out.below) (by omega) (by omega)).mono ?_
     rintro e w15 ⟨⟨i15, bad15, d15, k15, s15, y15, m15, c15, rfl, hn15, ⟨hi15, hl15, hp15⟩, hc15⟩, hb15⟩
     have HS15 := hide (HS13.out.call hb15)
     have HNx15 := hide (show Nx w w15 [w.heap.size, w.heap.size + 1, w.heap.size + 1 + 1, w3.heap.size, w6.heap.size] _ _ from Nx.made hn15 HS13.out)
     clear hn15 hb15 HS13
     clear p0
     have p0 := rD HS15
     go_wp2_with (refine stopAt 61 ?_)
     have lv16 := lV HS15
     refine namedStop fun W16 hW16 => ?_
     have HS16 := onS hW16 (HS15.out.st3 4 rfl _ _ _).va
     have HNx16 := hide (Nx.onto hW16 ((HNx15.out.st3 (by simp) _ _ _).var (g := w15.heap.size) (by simp) _))
     clear HNx15
     clear hW16 HS15
     clear p0
     have p0 := rD HS16
     go_wp2_with (refine stopAt 62 ?_)
     refine namedStop fun W17 hW17 => ?_
     have HS17 := hide (St.onto hW17 HS16.out)
     have HNx17 := hide (Nx.onto hW17 HNx16.out)
     clear HNx16
     clear hW17 HS16
     clear p0
     have p0 := rD HS17
     go_wp2_with (refine stopAt 63 ?_)
     refine namedStop fun W18 hW18 => ?_
     have HS18 := hide (St.onto hW18 (HS17.out.al _))
     have HRk18 := hide (show Px w W18 [w.heap.size, w.heap.size + 1, w.heap.size + 1 + 1, w3.heap.size, w6.heap.size, w15.heap.size] (.slice (some ⟨W17.heap.size, 0, none⟩) 1 1) [d15] [] [] from hW18 ▸ (Hx.lit (Rx.cons HNx17.out (Rx.nil)) HS17.out rfl (by simp)))
     clear HNx17
     clear hW18 HS17
     clear p0
     have p0 := rD HS18
     go_wp2_with (refine stopAt 64 ?_)
     refine namedStop fun W20 hW20 => ?_
     have HS20 := onS hW20 (HS18.out.st 3 rfl 2 _)
     have HRk20 := hide (Px.onto hW20 (HRk18.out.st (by simp) _ _))
     clear HRk18
     clear hW20 HS18
     clear p0
     have p0 := rD HS20
     cases hq19 : (t2.text.toList == [105, 110, 99, 108, 117, 100, 101])
     case true =>
      go_wp2_with fail
      refine namedWp fun W22 hW22 => ?_
      have HS22 := hide (St.onto hW22 HS20.out)
      have HRk22 := hide (Px.onto hW22 HRk20.out)
      clear HRk20
      clear hW22 HS20
      clear p0
      have HNn21 := hide (show Nx w W22 [w.heap.size, w.heap.size + 1, w.heap.size + 1 + 1, w3.heap.size, w6.heap.size, w15.heap.size] (Nd.of 33 t2.text [d15]) (.agg #[.int .i64 33, .string t2.text, .slice (some ⟨W17.heap.size, 0, none⟩) 1 1]) from Px.node HRk22.out (by omega) (by simp only [maxLen]; omega))
      clear HRk22
      refine namedWp fun W23 hW23 => ?_
      have HS23 := hide (St.onto hW23 HS22.out)
      have HNn23 := hide (Nx.onto hW23 HNn21.out)
      clear HNn21
      clear hW23 HS22
      refine rgn HS23.out [4, 3] fun W24 hW24 => ?_
      have HS24 := hide (St.onto hW24 HS23.out.dr)
      have HNn24 := hide (Nx.onto hW24 HNn23.out.dr)
      clear HNn23
      clear hW24 HS23
      refine tK 0 (kS HS24.out [4, 3]) ?_
      refine tK 2 (kS HS24.out [4, 3]) ?_
      refine rY 1 fun K hK => ?_
      go_simp
      refine (need_any ⟨#[59]⟩ (hi.below HS24.out.below) (by omega)).mono ?_
      rintro e w26 ⟨⟨i25, bad25, rfl, hr25⟩, hb26⟩
      have HS26 := hide (HS24.out.call hb26)
      have HNn26 := hide (HNn24.out.call hb26)
      clear HNn24
      clear hb26 HS24
      obtain ⟨hi25, hl25, hp25, hj25⟩ := hr25.out (by omega)
      clear hr25
      go_simp
      refine onK hK (kS HS26.out [4, 3]) ?_
      clear hK K
      refine rY 3 fun K hK => ?_
      have p1 := rG HS26 1
      go_simp
      refine onW hK (kS (HS26.out.st3 1 rfl _ _ _) [4, 3]) fun W27 hW27 => ?_
      clear hK K
      have HS27 := onS hW27 (HS26.out.st3 1 rfl _ _ _)
      have HNn27 := hide (Nx.onto hW27 (HNn26.out.st3 (by simp) _ _ _))
      clear HNn26
      clear hW27 HS26
      clear p1
      refine rY 4 fun K hK => ?_
      have p2 := rG HS27 2
      go_simp
      refine onW hK (kS (HS27.out.st3 2 rfl _ _ _) [4, 3]) fun W28 hW28 => ?_
      clear hK K
      have HS28 := onS hW28 (HS27.out.st3 2 rfl _ _ _)
      have HNn28 := hide (Nx.onto hW28 (HNn27.out.st3 (by simp) _ _ _))
      clear HNn27
      clear hW28 HS27
      clear p2
      refine wpAnyH_done (by kernel_rfl) ?_ _
      go_wp2_with fail
      refine namedPost fun W29 hW29 => ?_
      have HS29 := hide (St.onto hW29 HS28.out)
      have HNn29 := hide (Nx.onto hW29 HNn28.out)
      clear HNn28
      clear hW29 HS28
      exact ended_pn rfl rfl rfl (HS29.out.get 1 rfl) (HS29.out.get 2 rfl) ⟨⟨_, _, _, _, _, _, _, _, rfl, HNn29.out.out, ⟨by omega, by omega, by omega⟩, by rw [cntOf, cntL_one]; omega⟩, HS29.out.below⟩
     go_wp2_with fail
     refine (need_any ⟨#[97, 115]⟩ (hi.below HS20.out.below) (by omega)).mono ?_
     rintro e w31 ⟨⟨i30, bad30, rfl, hr30⟩, hb31⟩
     have HS31 := hide (HS20.out.call hb31)
     have HRk31 := hide (HRk20.out.call hb31)
     clear HRk20
     clear hb31 HS20
     clear p0
     obtain ⟨hi30, hl30, hp30, hj30⟩ := hr30.out (by omega)
     clear hr30
     have p0 := rD HS31
     go_wp2_with fail
     refine named fun W32 hW32 => ?_
     have HS32 := onS hW32 (HS31.out.st3 4 rfl _ _ _)
     have HRk32 := hide (Px.onto hW32 (HRk31.out.st3 (by simp) _ _ _))
     clear HRk31
     clear hW32 HS31
     clear p0
     obtain ⟨t33, ht33⟩ : ∃ t, tokAt l i30 bad30 = t := ⟨_, rfl⟩
     have hok33 := tokAt_ok hi.2.2 i30 bad30
     rw [ht33] at hok33
     obtain ⟨hkb33, hz33, hone33⟩ := hok33
     have HT33 := hide ht33
     clear ht33
     have Hone33 := hide hone33
     clear hone33
     have hfa33 := fieldT0 t33.kind t33.text
     have hfb33 := fieldT1 t33.kind t33.text
     refine (tok_any (hi.below HS32.out.below)).mono ?_
     rintro e w34 ⟨rfl, hb34⟩
     rw [HT33.out]
     have HS34 := hide (HS32.out.call hb34)
     have HRk34 := hide (HRk32.out.call hb34)
     clear HRk32
     clear hb34 HS32
     have p0 := rD HS34
     by_cases hk35 : t33.kind = 5
     ·
      have h1s : (1 : Int) ≤ (t33.text.size : Int) := by have := Hone33.out (by omega); omega
      have he36 : (t33.kind == 5) = true := by simpa using hk35
      have hn36 : (t33.kind != 5) = false := by simpa using hk35
      have HK36 := hide hk35
      clear hk35
      obtain ⟨rfl, hlt37⟩ := tokAt_kind (l := l) (i := i30) (b := bad30) (by rw [HT33.out, HK36.out]; decide)
      go_wp2_with fail
      refine namedWp fun W38 hW38 => ?_
      have HS38 := hide (St.onto hW38 HS34.out)
      have HRk38 := hide (Px.onto hW38 HRk34.out)
      clear HRk34
      clear hW38 HS34
      clear p0
      have HRk39 := hide (show Px w W38 [w.heap.size, w.heap.size + 1, w.heap.size + 1 + 1, w3.heap.size, w6.heap.size, w15.heap.size] (.slice (some ⟨W17.heap.size, 0, none⟩) 1 1) [d15] [.mk 4 (t33.text.extract 1 t33.text.size) .nil] [.int .i64 4, .string (t33.text.extract 1 t33.text.size), .slice none 0 0] from Px.leaf HRk38.out (by omega) (by simp only [ByteArray.size_extract, maxLen]; omega))
      clear HRk38
      refine namedWp fun W40 hW40 => ?_
      have HS40 := hide (St.onto hW40 HS38.out)
      have HRk40 := hide (Px.onto hW40 HRk39.out)
      clear HRk39
      clear hW40 HS38
      refine rgn HS40.out [4] fun W41 hW41 => ?_
      have HS41 := hide (St.onto hW41 HS40.out.dr)
      have HRk41 := hide (Px.onto hW41 HRk40.out.dr)
      clear HRk40
      clear hW41 HS40
      refine tK 0 (kS HS41.out [4]) ?_
      refine tK 2 (kS HS41.out [4]) ?_
      refine rY2 1 3 (fun K hK => ?_) (fun K hK => ?_)
      ·
       have p3 := rG HS41 3
       go_simp
       refine onK hK (kS HS41.out [4]) ?_
       clear hK K
       refine rY 3 fun K hK => ?_
       go_simp
       refine (tok_any (hi.below HS41.out.below)).mono ?_
       rintro e w42 ⟨rfl, hb42⟩
       rw [HT33.out]
       have HS42 := hide (HS41.out.call hb42)
       have HRk42 := hide (HRk41.out.call hb42)
       clear HRk41
       clear hb42 HS41
       clear p3
       have p0 := rD HS42
       go_simp
       refine onK hK (kS HS42.out [4]) ?_
       clear hK K
       refine tK 4 (kS HS42.out [4]) ?_
       refine tK 5 (kS HS42.out [4]) ?_
       refine tK 6 (kS HS42.out [4]) ?_
       refine rY 7 fun K hK => ?_
       clear p0
       obtain ⟨v43, w43, hr43, hH43, hS43⟩ := HRk42.out.snoc HS42.out rfl (by simp) (by simp)
       simp only [List.length_cons, List.length_nil, Nat.zero_add] at hr43
       obtain ⟨y43, n43, c43, rfl⟩ := hH43.form'
       have HX43 := hide hr43
       clear hr43
       go_simp
       refine onK hK (kS (HS42.out.al _) [4]) ?_
       clear hK K
       refine rY 8 fun K hK => ?_
       rw [if_pos (show Region.wanted _ _ = true from rfl)]
       refine wp_append_run (.tmp 77) (.tmp 83) rfl rfl rfl rfl HX43.out ?_
       refine onK hK (kS hS43 [4]) ?_
       clear hK K
       clear HX43 HS42 HRk42
       have HS43 := hide hS43
       have HRk43 := hide hH43
       clear hS43 hH43
       refine tK 9 (kS HS43.out [4]) ?_
       refine rY 10 fun K hK => ?_
       have p3 := rG HS43 3
       go_simp
       refine onW hK (kS (HS43.out.st 3 rfl 2 _) [4]) fun W44 hW44 => ?_
       clear hK K
       have HS44 := onS hW44 (HS43.out.st 3 rfl 2 _)
       have HRk44 := hide (Px.onto hW44 (HRk43.out.st (by simp) _ _))
       clear HRk43
       clear hW44 HS43
       clear p3
       refine wpAnyH_done (by kernel_rfl) ?_ _
       have p0 := rD HS44
       go_wp2_with fail
       refine namedWp fun W46 hW46 => ?_
       have HS46 := hide (St.onto hW46 HS44.out)
       have HRk46 := hide (Px.onto hW46 HRk44.out)
       clear HRk44
       clear hW46 HS44
       clear p0
       have HNn45 := hide (show Nx w W46 [w.heap.size, w.heap.size + 1, w.heap.size + 1 + 1, w3.heap.size, w6.heap.size, w15.heap.size] (Nd.of 33 t2.text ([d15] ++ [.mk 4 (t33.text.extract 1 t33.text.size) .nil])) (.agg #[.int .i64 33, .string t2.text, .slice y43 n43 c43]) from Px.node HRk46.out (by omega) (by simp only [maxLen]; omega))
       clear HRk46
       refine namedWp fun W47 hW47 => ?_
       have HS47 := hide (St.onto hW47 HS46.out)
       have HNn47 := hide (Nx.onto hW47 HNn45.out)
       clear HNn45
       clear hW47 HS46
       refine rgn HS47.out [4, 3] fun W48 hW48 => ?_
       have HS48 := hide (St.onto hW48 HS47.out.dr)
       have HNn48 := hide (Nx.onto hW48 HNn47.out.dr)
       clear HNn47
       clear hW48 HS47
       refine tK 0 (kS HS48.out [4, 3]) ?_
       refine tK 3 (kS HS48.out [4, 3]) ?_
       refine rY 1 fun K hK => ?_
       go_simp
       refine (next_in (n := l.length) ⟨_, _, _, rfl⟩ (by omega) hlen).mono ?_
       rintro e w50 ⟨⟨j49, rfl, hj49, hl49, hp49⟩, hb50⟩
       have HS50 := hide (HS48.out.call hb50)
       have HNn50 := hide (HNn48.out.call hb50)
       clear HNn48
       clear hb50 HS48
       go_simp
       refine onK hK (kS HS50.out [4, 3]) ?_
       clear hK K
       refine rY 2 fun K hK => ?_
       go_simp
       have p0 := rD HS50
       refine (need_any ⟨#[59]⟩ (hi.below HS50.out.below) (by omega)).mono ?_
       rintro e w52 ⟨⟨i51, bad51, rfl, hr51⟩, hb52⟩
       have HS52 := hide (HS50.out.call hb52)
       have HNn52 := hide (HNn50.out.call hb52)
       clear HNn50
       clear hb52 HS50
       clear p0
       obtain ⟨hi51, hl51, hp51, hj51⟩ := hr51.out (by omega)
       have hq51 := hr51.less (by omega)
       clear hr51
       go_simp
       refine onK hK (kS HS52.out [4, 3]) ?_
       clear hK K
       refine rY 4 fun K hK => ?_
       have p1 := rG HS52 1
       go_simp
       refine onW hK (kS (HS52.out.st3 1 rfl _ _ _) [4, 3]) fun W53 hW53 => ?_
       clear hK K
       have HS53 := onS hW53 (HS52.out.st3 1 rfl _ _ _)
       have HNn53 := hide (Nx.onto hW53 (HNn52.out.st3 (by simp) _ _ _))
       clear HNn52
       clear hW53 HS52
       clear p1
       refine rY 5 fun K hK => ?_
       have p2 := rG HS53 2
       go_simp
       refine onW hK (kS (HS53.out.st3 2 rfl _ _ _) [4, 3]) fun W54 hW54 => ?_
       clear hK K
       have HS54 := onS hW54 (HS53.out.st3 2 rfl _ _ _)
       have HNn54 := hide (Nx.onto hW54 (HNn53.out.st3 (by simp) _ _ _))
       clear HNn53
       clear hW54 HS53
       clear p2
       refine wpAnyH_done (by kernel_rfl) ?_ _
       go_wp2_with fail
       refine namedPost fun W55 hW55 => ?_
       have HS55 := hide (St.onto hW55 HS54.out)
       have HNn55 := hide (Nx.onto hW55 HNn54.out)
       clear HNn54
       clear hW55 HS54
       exact ended_pn rfl rfl rfl (HS55.out.get 1 rfl) (HS55.out.get 2 rfl) ⟨⟨_, _, _, _, _, _, _, _, rfl, HNn55.out.out, ⟨by omega, by omega, by omega⟩, by rw [cntOf, cntL_app, cntL_one, cntL_one, cntLeaf]; omega⟩, HS55.out.below⟩
      go_simp
      refine (tok_any (hi.below HS41.out.below)).mono ?_
      rintro e w56 ⟨rfl, hb56⟩
      rw [HT33.out]
      have HS56 := hide (HS41.out.call hb56)
      have HRk56 := hide (HRk41.out.call hb56)
      clear HRk41
      clear hb56 HS41
      have p0 := rD HS56
      go_simp
      refine onK hK (kS HS56.out [4]) ?_
      clear hK K
      refine tK 4 (kS HS56.out [4]) ?_
      refine tK 5 (kS HS56.out [4]) ?_
      refine tK 6 (kS HS56.out [4]) ?_
      refine rY2 1 7 (fun K hK => ?_) (fun K hK => ?_)
      ·
       clear p0
       have p3 := rG HS56 3
       go_simp
       refine onK hK (kS HS56.out [4]) ?_
       clear hK K
       refine rY 7 fun K hK => ?_
       clear p3
       obtain ⟨v57, w57, hr57, hH57, hS57⟩ := HRk56.out.snoc HS56.out rfl (by simp) (by simp)
       simp only [List.length_cons, List.length_nil, Nat.zero_add] at hr57
       obtain ⟨y57, n57, c57, rfl⟩ := hH57.form'
       have HX57 := hide hr57
       clear hr57
       go_simp
       refine onK hK (kS (HS56.out.al _) [4]) ?_
       clear hK K
       refine rY 8 fun K hK => ?_
       rw [if_pos (show Region.wanted _ _ = true from rfl)]
       refine wp_append_run (.tmp 77) (.tmp 83) rfl rfl rfl rfl HX57.out ?_
       refine onK hK (kS hS57 [4]) ?_
       clear hK K
       clear HX57 HS56 HRk56
       have HS57 := hide hS57
       have HRk57 := hide hH57
       clear hS57 hH57
       refine tK 9 (kS HS57.out [4]) ?_
       refine rY 10 fun K hK => ?_
       have p3 := rG HS57 3
       go_simp
       refine onW hK (kS (HS57.out.st 3 rfl 2 _) [4]) fun W58 hW58 => ?_
       clear hK K
       have HS58 := onS hW58 (HS57.out.st 3 rfl 2 _)
       have HRk58 := hide (Px.onto hW58 (HRk57.out.st (by simp) _ _))
       clear HRk57
       clear hW58 HS57
       clear p3
       refine wpAnyH_done (by kernel_rfl) ?_ _
       have p0 := rD HS58
       go_wp2_with fail
       refine namedWp fun W60 hW60 => ?_
       have HS60 := hide (St.onto hW60 HS58.out)
       have HRk60 := hide (Px.onto hW60 HRk58.out)
       clear HRk58
       clear hW60 HS58
       clear p0
       have HNn59 := hide (show Nx w W60 [w.heap.size, w.heap.size + 1, w.heap.size + 1 + 1, w3.heap.size, w6.heap.size, w15.heap.size] (Nd.of 33 t2.text ([d15] ++ [.mk 4 (t33.text.extract 1 t33.text.size) .nil])) (.agg #[.int .i64 33, .string t2.text, .slice y57 n57 c57]) from Px.node HRk60.out (by omega) (by simp only [maxLen]; omega))
       clear HRk60
       refine namedWp fun W61 hW61 => ?_
       have HS61 := hide (St.onto hW61 HS60.out)
       have HNn61 := hide (Nx.onto hW61 HNn59.out)
       clear HNn59
       clear hW61 HS60
       refine rgn HS61.out [4, 3] fun W62 hW62 => ?_
       have HS62 := hide (St.onto hW62 HS61.out.dr)
       have HNn62 := hide (Nx.onto hW62 HNn61.out.dr)
       clear HNn61
       clear hW62 HS61
       refine tK 0 (kS HS62.out [4, 3]) ?_
       refine tK 3 (kS HS62.out [4, 3]) ?_
       refine rY 1 fun K hK => ?_
       go_simp
       refine (next_in (n := l.length) ⟨_, _, _, rfl⟩ (by omega) hlen).mono ?_
       rintro e w64 ⟨⟨j63, rfl, hj63, hl63, hp63⟩, hb64⟩
       have HS64 := hide (HS62.out.call hb64)
       have HNn64 := hide (HNn62.out.call hb64)
       clear HNn62
       clear hb64 HS62
       go_simp
       refine onK hK (kS HS64.out [4, 3]) ?_
       clear hK K
       refine rY 2 fun K hK => ?_
       go_simp
       have p0 := rD HS64
       refine (need_any ⟨#[59]⟩ (hi.below HS64.out.below) (by omega)).mono ?_
       rintro e w66 ⟨⟨i65, bad65, rfl, hr65⟩, hb66⟩
       have HS66 := hide (HS64.out.call hb66)
       have HNn66 := hide (HNn64.out.call hb66)
       clear HNn64
       clear hb66 HS64
       clear p0
       obtain ⟨hi65, hl65, hp65, hj65⟩ := hr65.out (by omega)
       have hq65 := hr65.less (by omega)
       clear hr65
       go_simp
       refine onK hK (kS HS66.out [4, 3]) ?_
       clear hK K
       refine rY 4 fun K hK => ?_
       have p1 := rG HS66 1
       go_simp
       refine onW hK (kS (HS66.out.st3 1 rfl _ _ _) [4, 3]) fun W67 hW67 => ?_
       clear hK K
       have HS67 := onS hW67 (HS66.out.st3 1 rfl _ _ _)
       have HNn67 := hide (Nx.onto hW67 (HNn66.out.st3 (by simp) _ _ _))
       clear HNn66
       clear hW67 HS66
       clear p1
       refine rY 5 fun K hK => ?_
       have p2 := rG HS67 2
       go_simp
       refine onW hK (kS (HS67.out.st3 2 rfl _ _ _) [4, 3]) fun W68 hW68 => ?_
       clear hK K
       have HS68 := onS hW68 (HS67.out.st3 2 rfl _ _ _)
       have HNn68 := hide (Nx.onto hW68 (HNn67.out.st3 (by simp) _ _ _))
       clear HNn67
       clear hW68 HS67
       clear p2
       refine wpAnyH_done (by kernel_rfl) ?_ _
       go_wp2_with fail
       refine namedPost fun W69 hW69 => ?_
       have HS69 := hide (St.onto hW69 HS68.out)
       have HNn69 := hide (Nx.onto hW69 HNn68.out)
       clear HNn68
       clear hW69 HS68
       exact ended_pn rfl rfl rfl (HS69.out.get 1 rfl) (HS69.out.get 2 rfl) ⟨⟨_, _, _, _, _, _, _, _, rfl, HNn69.out.out, ⟨by omega, by omega, by omega⟩, by rw [cntOf, cntL_app, cntL_one, cntL_one, cntLeaf]; omega⟩, HS69.out.below⟩
      clear p0
      obtain ⟨v70, w70, hr70, hH70, hS70⟩ := HRk56.out.snoc HS56.out rfl (by simp) (by simp)
      simp only [List.length_cons, List.length_nil, Nat.zero_add] at hr70
      obtain ⟨y70, n70, c70, rfl⟩ := hH70.form'
      have HX70 := hide hr70
      clear hr70
      go_simp
      refine onK hK (kS (HS56.out.al _) [4]) ?_
      clear hK K
      refine rY 1 fun K hK => ?_
      obtain ⟨z700, z701, z702, z703, z704, z705⟩ := ((HS56.out.al (.cells #[.int .i64 4, .string (t33.text.extract 1 t33.text.size), .slice none 0 0] 24)).get 3 rfl).three
      go_simp
      refine onK hK (kS (HS56.out.al _) [4]) ?_
      clear hK K
      clear z700 z701 z702 z703 z704 z705
      refine rY 8 fun K hK => ?_
      rw [if_pos (show Region.wanted _ _ = true from rfl)]
      refine wp_append_run (.tmp 77) (.tmp 83) rfl rfl rfl rfl HX70.out ?_
      refine onK hK (kS hS70 [4]) ?_
      clear hK K
      clear HX70 HS56 HRk56
      have HS70 := hide hS70
      have HRk70 := hide hH70
      clear hS70 hH70
      refine tK 9 (kS HS70.out [4]) ?_
      refine rY 10 fun K hK => ?_
      have p3 := rG HS70 3
      go_simp
      refine onW hK (kS (HS70.out.st 3 rfl 2 _) [4]) fun W71 hW71 => ?_
      clear hK K
      have HS71 := onS hW71 (HS70.out.st 3 rfl 2 _)
      have HRk71 := hide (Px.onto hW71 (HRk70.out.st (by simp) _ _))
      clear HRk70
      clear hW71 HS70
      clear p3
      refine wpAnyH_done (by kernel_rfl) ?_ _
      have p0 := rD HS71
      go_wp2_with fail
      refine namedWp fun W73 hW73 => ?_
      have HS73 := hide (St.onto hW73 HS71.out)
      have HRk73 := hide (Px.onto hW73 HRk71.out)
      clear HRk71
      clear hW73 HS71
      clear p0
      have HNn72 := hide (show Nx w W73 [w.heap.size, w.heap.size + 1, w.heap.size + 1 + 1, w3.heap.size, w6.heap.size, w15.heap.size] (Nd.of 33 t2.text ([d15] ++ [.mk 4 (t33.text.extract 1 t33.text.size) .nil])) (.agg #[.int .i64 33, .string t2.text, .slice y70 n70 c70]) from Px.node HRk73.out (by omega) (by simp only [maxLen]; omega))
      clear HRk73
      refine namedWp fun W74 hW74 => ?_
      have HS74 := hide (St.onto hW74 HS73.out)
      have HNn74 := hide (Nx.onto hW74 HNn72.out)
      clear HNn72
      clear hW74 HS73
      refine rgn HS74.out [4, 3] fun W75 hW75 => ?_
      have HS75 := hide (St.onto hW75 HS74.out.dr)
      have HNn75 := hide (Nx.onto hW75 HNn74.out.dr)
      clear HNn74
      clear hW75 HS74
      refine tK 0 (kS HS75.out [4, 3]) ?_
      refine tK 3 (kS HS75.out [4, 3]) ?_
      refine rY 1 fun K hK => ?_
      go_simp
      refine (next_in (n := l.length) ⟨_, _, _, rfl⟩ (by omega) hlen).mono ?_
      rintro e w77 ⟨⟨j76, rfl, hj76, hl76, hp76⟩, hb77⟩
      have HS77 := hide (HS75.out.call hb77)
      have HNn77 := hide (HNn75.out.call hb77)
      clear HNn75
      clear hb77 HS75
      go_simp
      refine onK hK (kS HS77.out [4, 3]) ?_
      clear hK K
      refine rY 2 fun K hK => ?_
      go_simp
      have p0 := rD HS77
      refine (need_any ⟨#[59]⟩ (hi.below HS77.out.below) (by omega)).mono ?_
      rintro e w79 ⟨⟨i78, bad78, rfl, hr78⟩, hb79⟩
      have HS79 := hide (HS77.out.call hb79)
      have HNn79 := hide (HNn77.out.call hb79)
      clear HNn77
      clear hb79 HS77
      clear p0
      obtain ⟨hi78, hl78, hp78, hj78⟩ := hr78.out (by omega)
      have hq78 := hr78.less (by omega)
      clear hr78
      go_simp
      refine onK hK (kS HS79.out [4, 3]) ?_
      clear hK K
      refine rY 4 fun K hK => ?_
      have p1 := rG HS79 1
      go_simp
      refine onW hK (kS (HS79.out.st3 1 rfl _ _ _) [4, 3]) fun W80 hW80 => ?_
      clear hK K
      have HS80 := onS hW80 (HS79.out.st3 1 rfl _ _ _)
      have HNn80 := hide (Nx.onto hW80 (HNn79.out.st3 (by simp) _ _ _))
      clear HNn79
      clear hW80 HS79
      clear p1
      refine rY 5 fun K hK => ?_
      have p2 := rG HS80 2
      go_simp
      refine onW hK (kS (HS80.out.st3 2 rfl _ _ _) [4, 3]) fun W81 hW81 => ?_
      clear hK K
      have HS81 := onS hW81 (HS80.out.st3 2 rfl _ _ _)
      have HNn81 := hide (Nx.onto hW81 (HNn80.out.st3 (by simp) _ _ _))
      clear HNn80
      clear hW81 HS80
      clear p2
      refine wpAnyH_done (by kernel_rfl) ?_ _
      go_wp2_with fail
      refine namedPost fun W82 hW82 => ?_
      have HS82 := hide (St.onto hW82 HS81.out)
      have HNn82 := hide (Nx.onto hW82 HNn81.out)
      clear HNn81
      clear hW82 HS81
      exact ended_pn rfl rfl rfl (HS82.out.get 1 rfl) (HS82.out.get 2 rfl) ⟨⟨_, _, _, _, _, _, _, _, rfl, HNn82.out.out, ⟨by omega, by omega, by omega⟩, by rw [cntOf, cntL_app, cntL_one, cntL_one, cntLeaf]; omega⟩, HS82.out.below⟩
     have he83 : (t33.kind == 5) = false := by simpa using hk35
     have hn83 : (t33.kind != 5) = true := by simpa using hk35
     clear hk35
     go_wp2_with fail
     refine (name_any (hi.below HS34.out.below) (by omega)).mono ?_
     rintro e w85 ⟨⟨i84, bad84, s84, rfl, hz84, hr84, hkk84⟩, hb85⟩
     have HS85 := hide (HS34.out.call hb85)
     have HRk85 := hide (HRk34.out.call hb85)
     clear HRk34
     clear hb85 HS34
     clear p0
     obtain ⟨hi84, hl84, hp84, hj84⟩ := hr84.out (by omega)
     clear hr84 hkk84
     have p0 := rD HS85
     go_wp2_with (refine stopAt 95 ?_)
     have lv86 := lV HS85
     refine namedStop fun W86 hW86 => ?_
     have HS86 := onS hW86 HS85.out.va
     have HRk86 := hide (Px.onto hW86 (HRk85.out.var (g := w85.heap.size) (by simp) _))
     clear HRk85
     clear hW86 HS85
     clear p0
     have p0 := rD HS86
     have HRk87 := hide (show Px w W86 [w.heap.size, w.heap.size + 1, w.heap.size + 1 + 1, w3.heap.size, w6.heap.size, w15.heap.size, w85.heap.size] (.slice (some ⟨W17.heap.size, 0, none⟩) 1 1) [d15] [.mk 31 s84 .nil] [.int .i64 31, .string s84, .slice none 0 0] from Px.leaf HRk86.out (by omega) (by simp only [maxLen]; omega))
     clear HRk86
     have lv88 := lV HS86
     have hSt88 : St w W86 [pe w.heap.size (some ⟨ab, ao, none⟩) l cap i false, pz (w.heap.size + 1), nz (w.heap.size + 1 + 1), ne w3.heap.size 33 t2.text (some ⟨W17.heap.size, 0, none⟩) 1 1, pe w6.heap.size (some ⟨ab, ao, none⟩) l cap i30 bad30, ne w15.heap.size k15 s15 y15 m15 c15, pe w85.heap.size (some ⟨ab, ao, none⟩) l cap i84 bad84] := HS86.out
     have hPx88 : Px w W86 [w.heap.size, w.heap.size + 1, w.heap.size + 1 + 1, w3.heap.size, w6.heap.size, w15.heap.size, w85.heap.size] (.slice (some ⟨W17.heap.size, 0, none⟩) 1 1) [d15] [.mk 31 s84 .nil] [.int .i64 31, .string s84, .slice none 0 0] := HRk87.out
     obtain ⟨v88, w88, hr88, hH88, hS88⟩ := hPx88.snoc hSt88 rfl (by simp) (by simp)
     simp only [List.length_cons, List.length_nil, Nat.zero_add] at hr88
     obtain ⟨y88, n88, c88, rfl⟩ := hH88.form'
     clear hSt88 hPx88 HS86 HRk87
     have HS88 := hide hS88
     have HRk88 := hide hH88
     clear hS88 hH88
     have rr0 := rD HS88
     go_wp2_with (at_builtin; refine wpList_append_run rfl _ _ (by rfl) (by rfl) (by rfl) (by rfl) hr88 ?_)
     clear hr88 p0
     refine namedWp fun W90 hW90 => ?_
     have HS90 := onS hW90 (HS88.out.st 3 rfl 2 _)
     have HRk90 := hide (Px.onto hW90 (HRk88.out.st (by simp) _ _))
     clear HRk88
     clear hW90 HS88
     clear rr0
     have HNn89 := hide (show Nx w W90 [w.heap.size, w.heap.size + 1, w.heap.size + 1 + 1, w3.heap.size, w6.heap.size, w15.heap.size, w85.heap.size] (Nd.of 33 t2.text ([d15] ++ [.mk 31 s84 .nil])) (.agg #[.int .i64 33, .string t2.text, .slice y88 n88 c88]) from Px.node HRk90.out (by omega) (by simp only [maxLen]; omega))
     clear HRk90
     refine namedWp fun W91 hW91 => ?_
     have HS91 := hide (St.onto hW91 HS90.out)
     have HNn91 := hide (Nx.onto hW91 HNn89.out)
     clear HNn89
     clear hW91 HS90
     refine rgn HS91.out [6, 3] fun W92 hW92 => ?_
     have HS92 := hide (St.onto hW92 HS91.out.dr)
     have HNn92 := hide (Nx.onto hW92 HNn91.out.dr)
     clear HNn91
     clear hW92 HS91
     refine tK 0 (kS HS92.out [6, 3]) ?_
     refine tK 2 (kS HS92.out [6, 3]) ?_
     refine rY 1 fun K hK => ?_
     go_simp
     refine (need_any ⟨#[59]⟩ (hi.below HS92.out.below) (by omega)).mono ?_
     rintro e w94 ⟨⟨i93, bad93, rfl, hr93⟩, hb94⟩
     have HS94 := hide (HS92.out.call hb94)
     have HNn94 := hide (HNn92.out.call hb94)
     clear HNn92
     clear hb94 HS92
     obtain ⟨hi93, hl93, hp93, hj93⟩ := hr93.out (by omega)
     clear hr93
     go_simp
     refine onK hK (kS HS94.out [6, 3]) ?_
     clear hK K
     refine rY 3 fun K hK => ?_
     have p1 := rG HS94 1
     go_simp
     refine onW hK (kS (HS94.out.st3 1 rfl _ _ _) [6, 3]) fun W95 hW95 => ?_
     clear hK K
     have HS95 := onS hW95 (HS94.out.st3 1 rfl _ _ _)
     have HNn95 := hide (Nx.onto hW95 (HNn94.out.st3 (by simp) _ _ _))
     clear HNn94
     clear hW95 HS94
     clear p1
     refine rY 4 fun K hK => ?_
     have p2 := rG HS95 2
     go_simp
     refine onW hK (kS (HS95.out.st3 2 rfl _ _ _) [6, 3]) fun W96 hW96 => ?_
     clear hK K
     have HS96 := onS hW96 (HS95.out.st3 2 rfl _ _ _)
     have HNn96 := hide (Nx.onto hW96 (HNn95.out.st3 (by simp) _ _ _))
     clear HNn95
     clear hW96 HS95
     clear p2
     refine wpAnyH_done (by kernel_rfl) ?_ _
     go_wp2_with fail
     refine namedPost fun W97 hW97 => ?_
     have HS97 := hide (St.onto hW97 HS96.out)
     have HNn97 := hide (Nx.onto hW97 HNn96.out)
     clear HNn96
     clear hW97 HS96
     exact ended_pn rfl rfl rfl (HS97.out.get 1 rfl) (HS97.out.get 2 rfl) ⟨⟨_, _, _, _, _, _, _, _, rfl, HNn97.out.out, ⟨by omega, by omega, by omega⟩, by rw [cntOf, cntL_app, cntL_one, cntL_one, cntLeaf]; omega⟩, HS97.out.below⟩
    have hz1 : (z != 11) = true := by simpa using hz11
    clear hz11
    by_cases hz8 : z = 8
    ·
     have hz2 : (z != 8) = false := by simpa using hz8
     clear hz8
     go_wp2_with fail
     exact ⟨⟨k + 1, by go_num, by omega, by omega, trivial⟩, by simp [intOf]; omega⟩
    have hz2 : (z != 8) = true := by simpa using hz8
    clear hz8
    go_wp2_with fail
    have hlk := Nat.le_of_lt hlt2
    have hlq : leftP l.length k false ≤ leftP l.length j5 false := by rw [left_false, left_false]; omega
    refine namedWp fun W98 hW98 => ?_
    have HS98 := onS hW98 (HS13.out.st 4 rfl 1 _)
    clear hW98 HS13
    clear p0
    have HNn99 := hide (show Nx w W98 [w.heap.size, w.heap.size + 1, w.heap.size + 1 + 1, w3.heap.size, w6.heap.size] (Nd.mk 33 t2.text .nil) (.agg #[.int .i64 33, .string t2.text, .slice none 0 0]) from Nx.leaf (by omega) (by simp only [maxLen]; omega))
    refine namedWp fun W100 hW100 => ?_
    have HS100 := hide (St.onto hW100 HS98.out)
    have HNn100 := hide (Nx.onto hW100 HNn99.out)
    clear HNn99
    clear hW100 HS98
    refine rgn HS100.out [4, 3] fun W101 hW101 => ?_
    have HS101 := hide (St.onto hW101 HS100.out.dr)
    have HNn101 := hide (Nx.onto hW101 HNn100.out.dr)
    clear HNn100
    clear hW101 HS100
    refine tK 0 (kS HS101.out [4, 3]) ?_
    refine tK 2 (kS HS101.out [4, 3]) ?_
    refine rY 1 fun K hK => ?_
    go_simp
    refine (wrong_any _ _ _ _ ⟨_, _, _, rfl⟩).mono ?_
    rintro e w103 ⟨rfl, hb103⟩
    have HS103 := hide (HS101.out.call hb103)
    have HNn103 := hide (HNn101.out.call hb103)
    clear HNn101
    clear hb103 HS101
    have p0 := rD HS103
    go_wp2_with fail
    have hwr102 := left_wrong l.length k false
    go_simp
    refine onK hK (kS HS103.out [4, 3]) ?_
    clear hK K
    refine rY 3 fun K hK => ?_
    clear p0
    have p1 := rG HS103 1
    go_simp
    refine onW hK (kS (HS103.out.st3 1 rfl _ _ _) [4, 3]) fun W104 hW104 => ?_
    clear hK K
    have HS104 := onS hW104 (HS103.out.st3 1 rfl _ _ _)
    have HNn104 := hide (Nx.onto hW104 (HNn103.out.st3 (by simp) _ _ _))
    clear HNn103
    clear hW104 HS103
    clear p1
    refine rY 4 fun K hK => ?_
    have p2 := rG HS104 2
    go_simp
    refine onW hK (kS (HS104.out.st3 2 rfl _ _ _) [4, 3]) fun W105 hW105 => ?_
    clear hK K
    have HS105 := onS hW105 (HS104.out.st3 2 rfl _ _ _)
    have HNn105 := hide (Nx.onto hW105 (HNn104.out.st3 (by simp) _ _ _))
    clear HNn104
    clear hW105 HS104
    clear p2
    refine wpAnyH_done (by kernel_rfl) ?_ _
    go_wp2_with fail
    refine namedPost fun W106 hW106 => ?_
    have HS106 := hide (St.onto hW106 HS105.out)
    have HNn106 := hide (Nx.onto hW106 HNn105.out)
    clear HNn105
    clear hW106 HS105
    exact ended_pn rfl rfl rfl (HS106.out.get 1 rfl) (HS106.out.get 2 rfl) ⟨⟨_, _, _, _, _, _, _, _, rfl, HNn106.out.out, ⟨by omega, by omega, by omega⟩, by rw [cntLeaf]; omega⟩, HS106.out.below⟩
   go_wp2_with fail
   refine (HK.out.str (hi.below HS13.out.below) (by omega) (by omega)).mono ?_
   rintro e w107 ⟨⟨i107, bad107, d107, k107, s107, y107, m107, c107, rfl, hn107, ⟨hi107, hl107, hp107⟩, hc107⟩, hb107⟩
   have HS107 := hide (HS13.out.call hb107)
   have HNx107 := hide (show Nx w w107 [w.heap.size, w.heap.size + 1, w.heap.size + 1 + 1, w3.heap.size, w6.heap.size] _ _ from Nx.made hn107 HS13.out)
   clear hn107 hb107 HS13
   clear p0
   have p0 := rD HS107
   go_wp2_with (refine stopAt 61 ?_)
   have lv108 := lV HS107
   refine namedStop fun W108 hW108 => ?_
   have HS108 := onS hW108 (HS107.out.st3 4 rfl _ _ _).va
   have HNx108 := hide (Nx.onto hW108 ((HNx107.out.st3 (by simp) _ _ _).var (g := w107.heap.size) (by simp) _))
   clear HNx107
   clear hW108 HS107
   clear p0
   have p0 := rD HS108
   go_wp2_with (refine stopAt 62 ?_)
   refine namedStop fun W109 hW109 => ?_
   have HS109 := hide (St.onto hW109 HS108.out)
   have HNx109 := hide (Nx.onto hW109 HNx108.out)
   clear HNx108
   clear hW109 HS108
   clear p0
   have p0 := rD HS109
   go_wp2_with (refine stopAt 63 ?_)
   refine namedStop fun W110 hW110 => ?_
   have HS110 := hide (St.onto hW110 (HS109.out.al _))
   have HRk110 := hide (show Px w W110 [w.heap.size, w.heap.size + 1, w.heap.size + 1 + 1, w3.heap.size, w6.heap.size, w107.heap.size] (.slice (some ⟨W109.heap.size, 0, none⟩) 1 1) [d107] [] [] from hW110 ▸ (Hx.lit (Rx.cons HNx109.out (Rx.nil)) HS109.out rfl (by simp)))
   clear HNx109
   clear hW110 HS109
   clear p0
   have p0 := rD HS110
   go_wp2_with (refine stopAt 64 ?_)
   refine namedStop fun W112 hW112 => ?_
   have HS112 := onS hW112 (HS110.out.st 3 rfl 2 _)
   have HRk112 := hide (Px.onto hW112 (HRk110.out.st (by simp) _ _))
   clear HRk110
   clear hW112 HS110
   clear p0
   have p0 := rD HS112
   cases hq111 : (t2.text.toList == [105, 110, 99, 108, 117, 100, 101])
   case true =>
    go_wp2_with fail
    refine namedWp fun W114 hW114 => ?_
    have HS114 := hide (St.onto hW114 HS112.out)
    have HRk114 := hide (Px.onto hW114 HRk112.out)
    clear HRk112
    clear hW114 HS112
    clear p0
    have HNn113 := hide (show Nx w W114 [w.heap.size, w.heap.size + 1, w.heap.size + 1 + 1, w3.heap.size, w6.heap.size, w107.heap.size] (Nd.of 33 t2.text [d107]) (.agg #[.int .i64 33, .string t2.text, .slice (some ⟨W109.heap.size, 0, none⟩) 1 1]) from Px.node HRk114.out (by omega) (by simp only [maxLen]; omega))
    clear HRk114
    refine namedWp fun W115 hW115 => ?_
    have HS115 := hide (St.onto hW115 HS114.out)
    have HNn115 := hide (Nx.onto hW115 HNn113.out)
    clear HNn113
    clear hW115 HS114
    refine rgn HS115.out [4, 3] fun W116 hW116 => ?_
    have HS116 := hide (St.onto hW116 HS115.out.dr)
    have HNn116 := hide (Nx.onto hW116 HNn115.out.dr)
    clear HNn115
    clear hW116 HS115
    refine tK 0 (kS HS116.out [4, 3]) ?_
    refine tK 2 (kS HS116.out [4, 3]) ?_
    refine rY 1 fun K hK => ?_
    go_simp
    refine (need_any ⟨#[59]⟩ (hi.below HS116.out.below) (by omega)).mono ?_
    rintro e w118 ⟨⟨i117, bad117, rfl, hr117⟩, hb118⟩
    have HS118 := hide (HS116.out.call hb118)
    have HNn118 := hide (HNn116.out.call hb118)
    clear HNn116
    clear hb118 HS116
    obtain ⟨hi117, hl117, hp117, hj117⟩ := hr117.out (by omega)
    clear hr117
    go_simp
    refine onK hK (kS HS118.out [4, 3]) ?_
    clear hK K
    refine rY 3 fun K hK => ?_
    have p1 := rG HS118 1
    go_simp
    refine onW hK (kS (HS118.out.st3 1 rfl _ _ _) [4, 3]) fun W119 hW119 => ?_
    clear hK K
    have HS119 := onS hW119 (HS118.out.st3 1 rfl _ _ _)
    have HNn119 := hide (Nx.onto hW119 (HNn118.out.st3 (by simp) _ _ _))
    clear HNn118
    clear hW119 HS118
    clear p1
    refine rY 4 fun K hK => ?_
    have p2 := rG HS119 2
    go_simp
    refine onW hK (kS (HS119.out.st3 2 rfl _ _ _) [4, 3]) fun W120 hW120 => ?_
    clear hK K
    have HS120 := onS hW120 (HS119.out.st3 2 rfl _ _ _)
    have HNn120 := hide (Nx.onto hW120 (HNn119.out.st3 (by simp) _ _ _))
    clear HNn119
    clear hW120 HS119
    clear p2
    refine wpAnyH_done (by kernel_rfl) ?_ _
    go_wp2_with fail
    refine namedPost fun W121 hW121 => ?_
    have HS121 := hide (St.onto hW121 HS120.out)
    have HNn121 := hide (Nx.onto hW121 HNn120.out)
    clear HNn120
    clear hW121 HS120
    exact ended_pn rfl rfl rfl (HS121.out.get 1 rfl) (HS121.out.get 2 rfl) ⟨⟨_, _, _, _, _, _, _, _, rfl, HNn121.out.out, ⟨by omega, by omega, by omega⟩, by rw [cntOf, cntL_one]; omega⟩, HS121.out.below⟩
   go_wp2_with fail
   refine (need_any ⟨#[97, 115]⟩ (hi.below HS112.out.below) (by omega)).mono ?_
   rintro e w123 ⟨⟨i122, bad122, rfl, hr122⟩, hb123⟩
   have HS123 := hide (HS112.out.call hb123)
   have HRk123 := hide (HRk112.out.call hb123)
   clear HRk112
   clear hb123 HS112
   clear p0
   obtain ⟨hi122, hl122, hp122, hj122⟩ := hr122.out (by omega)
   clear hr122
   have p0 := rD HS123
   go_wp2_with fail
   refine named fun W124 hW124 => ?_
   have HS124 := onS hW124 (HS123.out.st3 4 rfl _ _ _)
   have HRk124 := hide (Px.onto hW124 (HRk123.out.st3 (by simp) _ _ _))
   clear HRk123
   clear hW124 HS123
   clear p0
   obtain ⟨t125, ht125⟩ : ∃ t, tokAt l i122 bad122 = t := ⟨_, rfl⟩
   have hok125 := tokAt_ok hi.2.2 i122 bad122
   rw [ht125] at hok125
   obtain ⟨hkb125, hz125, hone125⟩ := hok125
   have HT125 := hide ht125
   clear ht125
   have Hone125 := hide hone125
   clear hone125
   have hfa125 := fieldT0 t125.kind t125.text
   have hfb125 := fieldT1 t125.kind t125.text
   refine (tok_any (hi.below HS124.out.below)).mono ?_
   rintro e w126 ⟨rfl, hb126⟩
   rw [HT125.out]
   have HS126 := hide (HS124.out.call hb126)
   have HRk126 := hide (HRk124.out.call hb126)
   clear HRk124
   clear hb126 HS124
   have p0 := rD HS126
   by_cases hk127 : t125.kind = 5
   ·
    have h1s : (1 : Int) ≤ (t125.text.size : Int) := by have := Hone125.out (by omega); omega
    have he128 : (t125.kind == 5) = true := by simpa using hk127
    have hn128 : (t125.kind != 5) = false := by simpa using hk127
    have HK128 := hide hk127
    clear hk127
    obtain ⟨rfl, hlt129⟩ := tokAt_kind (l := l) (i := i122) (b := bad122) (by rw [HT125.out, HK128.out]; decide)
    go_wp2_with fail
    refine namedWp fun W130 hW130 => ?_
    have HS130 := hide (St.onto hW130 HS126.out)
    have HRk130 := hide (Px.onto hW130 HRk126.out)
    clear HRk126
    clear hW130 HS126
    clear p0
    have HRk131 := hide (show Px w W130 [w.heap.size, w.heap.size + 1, w.heap.size + 1 + 1, w3.heap.size, w6.heap.size, w107.heap.size] (.slice (some ⟨W109.heap.size, 0, none⟩) 1 1) [d107] [.mk 4 (t125.text.extract 1 t125.text.size) .nil] [.int .i64 4, .string (t125.text.extract 1 t125.text.size), .slice none 0 0] from Px.leaf HRk130.out (by omega) (by simp only [ByteArray.size_extract, maxLen]; omega))
    clear HRk130
    refine namedWp fun W132 hW132 => ?_
    have HS132 := hide (St.onto hW132 HS130.out)
    have HRk132 := hide (Px.onto hW132 HRk131.out)
    clear HRk131
    clear hW132 HS130
    refine rgn HS132.out [4] fun W133 hW133 => ?_
    have HS133 := hide (St.onto hW133 HS132.out.dr)
    have HRk133 := hide (Px.onto hW133 HRk132.out.dr)
    clear HRk132
    clear hW133 HS132
    refine tK 0 (kS HS133.out [4]) ?_
    refine tK 2 (kS HS133.out [4]) ?_
    refine rY2 1 3 (fun K hK => ?_) (fun K hK => ?_)
    ·
     have p3 := rG HS133 3
     go_simp
     refine onK hK (kS HS133.out [4]) ?_
     clear hK K
     refine rY 3 fun K hK => ?_
     go_simp
     refine (tok_any (hi.below HS133.out.below)).mono ?_
     rintro e w134 ⟨rfl, hb134⟩
     rw [HT125.out]
     have HS134 := hide (HS133.out.call hb134)
     have HRk134 := hide (HRk133.out.call hb134)
     clear HRk133
     clear hb134 HS133
     clear p3
     have p0 := rD HS134
     go_simp
     refine onK hK (kS HS134.out [4]) ?_
     clear hK K
     refine tK 4 (kS HS134.out [4]) ?_
     refine tK 5 (kS HS134.out [4]) ?_
     refine tK 6 (kS HS134.out [4]) ?_
     refine rY 7 fun K hK => ?_
     clear p0
     obtain ⟨v135, w135, hr135, hH135, hS135⟩ := HRk134.out.snoc HS134.out rfl (by simp) (by simp)
     simp only [List.length_cons, List.length_nil, Nat.zero_add] at hr135
     obtain ⟨y135, n135, c135, rfl⟩ := hH135.form'
     have HX135 := hide hr135
     clear hr135
     go_simp
     refine onK hK (kS (HS134.out.al _) [4]) ?_
     clear hK K
     refine rY 8 fun K hK => ?_
     rw [if_pos (show Region.wanted _ _ = true from rfl)]
     refine wp_append_run (.tmp 77) (.tmp 83) rfl rfl rfl rfl HX135.out ?_
     refine onK hK (kS hS135 [4]) ?_
     clear hK K
     clear HX135 HS134 HRk134
     have HS135 := hide hS135
     have HRk135 := hide hH135
     clear hS135 hH135
     refine tK 9 (kS HS135.out [4]) ?_
     refine rY 10 fun K hK => ?_
     have p3 := rG HS135 3
     go_simp
     refine onW hK (kS (HS135.out.st 3 rfl 2 _) [4]) fun W136 hW136 => ?_
     clear hK K
     have HS136 := onS hW136 (HS135.out.st 3 rfl 2 _)
     have HRk136 := hide (Px.onto hW136 (HRk135.out.st (by simp) _ _))
     clear HRk135
     clear hW136 HS135
     clear p3
     refine wpAnyH_done (by kernel_rfl) ?_ _
     have p0 := rD HS136
     go_wp2_with fail
     refine namedWp fun W138 hW138 => ?_
     have HS138 := hide (St.onto hW138 HS136.out)
     have HRk138 := hide (Px.onto hW138 HRk136.out)
     clear HRk136
     clear hW138 HS136
     clear p0
     have HNn137 := hide (show Nx w W138 [w.heap.size, w.heap.size + 1, w.heap.size + 1 + 1, w3.heap.size, w6.heap.size, w107.heap.size] (Nd.of 33 t2.text ([d107] ++ [.mk 4 (t125.text.extract 1 t125.text.size) .nil])) (.agg #[.int .i64 33, .string t2.text, .slice y135 n135 c135]) from Px.node HRk138.out (by omega) (by simp only [maxLen]; omega))
     clear HRk138
     refine namedWp fun W139 hW139 => ?_
     have HS139 := hide (St.onto hW139 HS138.out)
     have HNn139 := hide (Nx.onto hW139 HNn137.out)
     clear HNn137
     clear hW139 HS138
     refine rgn HS139.out [4, 3] fun W140 hW140 => ?_
     have HS140 := hide (St.onto hW140 HS139.out.dr)
     have HNn140 := hide (Nx.onto hW140 HNn139.out.dr)
     clear HNn139
     clear hW140 HS139
     refine tK 0 (kS HS140.out [4, 3]) ?_
     refine tK 3 (kS HS140.out [4, 3]) ?_
     refine rY 1 fun K hK => ?_
     go_simp
     refine (next_in (n := l.length) ⟨_, _, _, rfl⟩ (by omega) hlen).mono ?_
     rintro e w142 ⟨⟨j141, rfl, hj141, hl141, hp141⟩, hb142⟩
     have HS142 := hide (HS140.out.call hb142)
     have HNn142 := hide (HNn140.out.call hb142)
     clear HNn140
     clear hb142 HS140
     go_simp
     refine onK hK (kS HS142.out [4, 3]) ?_
     clear hK K
     refine rY 2 fun K hK => ?_
     go_simp
     have p0 := rD HS142
     refine (need_any ⟨#[59]⟩ (hi.below HS142.out.below) (by omega)).mono ?_
     rintro e w144 ⟨⟨i143, bad143, rfl, hr143⟩, hb144⟩
     have HS144 := hide (HS142.out.call hb144)
     have HNn144 := hide (HNn142.out.call hb144)
     clear HNn142
     clear hb144 HS142
     clear p0
     obtain ⟨hi143, hl143, hp143, hj143⟩ := hr143.out (by omega)
     have hq143 := hr143.less (by omega)
     clear hr143
     go_simp
     refine onK hK (kS HS144.out [4, 3]) ?_
     clear hK K
     refine rY 4 fun K hK => ?_
     have p1 := rG HS144 1
     go_simp
     refine onW hK (kS (HS144.out.st3 1 rfl _ _ _) [4, 3]) fun W145 hW145 => ?_
     clear hK K
     have HS145 := onS hW145 (HS144.out.st3 1 rfl _ _ _)
     have HNn145 := hide (Nx.onto hW145 (HNn144.out.st3 (by simp) _ _ _))
     clear HNn144
     clear hW145 HS144
     clear p1
     refine rY 5 fun K hK => ?_
     have p2 := rG HS145 2
     go_simp
     refine onW hK (kS (HS145.out.st3 2 rfl _ _ _) [4, 3]) fun W146 hW146 => ?_
     clear hK K
     have HS146 := onS hW146 (HS145.out.st3 2 rfl _ _ _)
     have HNn146 := hide (Nx.onto hW146 (HNn145.out.st3 (by simp) _ _ _))
     clear HNn145
     clear hW146 HS145
     clear p2
     refine wpAnyH_done (by kernel_rfl) ?_ _
     go_wp2_with fail
     refine namedPost fun W147 hW147 => ?_
     have HS147 := hide (St.onto hW147 HS146.out)
     have HNn147 := hide (Nx.onto hW147 HNn146.out)
     clear HNn146
     clear hW147 HS146
     exact ended_pn rfl rfl rfl (HS147.out.get 1 rfl) (HS147.out.get 2 rfl) ⟨⟨_, _, _, _, _, _, _, _, rfl, HNn147.out.out, ⟨by omega, by omega, by omega⟩, by rw [cntOf, cntL_app, cntL_one, cntL_one, cntLeaf]; omega⟩, HS147.out.below⟩
    go_simp
    refine (tok_any (hi.below HS133.out.below)).mono ?_
    rintro e w148 ⟨rfl, hb148⟩
    rw [HT125.out]
    have HS148 := hide (HS133.out.call hb148)
    have HRk148 := hide (HRk133.out.call hb148)
    clear HRk133
    clear hb148 HS133
    have p0 := rD HS148
    go_simp
    refine onK hK (kS HS148.out [4]) ?_
    clear hK K
    refine tK 4 (kS HS148.out [4]) ?_
    refine tK 5 (kS HS148.out [4]) ?_
    refine tK 6 (kS HS148.out [4]) ?_
    refine rY2 1 7 (fun K hK => ?_) (fun K hK => ?_)
    ·
     clear p0
     have p3 := rG HS148 3
     go_simp
     refine onK hK (kS HS148.out [4]) ?_
     clear hK K
     refine rY 7 fun K hK => ?_
     clear p3
     obtain ⟨v149, w149, hr149, hH149, hS149⟩ := HRk148.out.snoc HS148.out rfl (by simp) (by simp)
     simp only [List.length_cons, List.length_nil, Nat.zero_add] at hr149
     obtain ⟨y149, n149, c149, rfl⟩ := hH149.form'
     have HX149 := hide hr149
     clear hr149
     go_simp
     refine onK hK (kS (HS148.out.al _) [4]) ?_
     clear hK K
     refine rY 8 fun K hK => ?_
     rw [if_pos (show Region.wanted _ _ = true from rfl)]
     refine wp_append_run (.tmp 77) (.tmp 83) rfl rfl rfl rfl HX149.out ?_
     refine onK hK (kS hS149 [4]) ?_
     clear hK K
     clear HX149 HS148 HRk148
     have HS149 := hide hS149
     have HRk149 := hide hH149
     clear hS149 hH149
     refine tK 9 (kS HS149.out [4]) ?_
     refine rY 10 fun K hK => ?_
     have p3 := rG HS149 3
     go_simp
     refine onW hK (kS (HS149.out.st 3 rfl 2 _) [4]) fun W150 hW150 => ?_
     clear hK K
     have HS150 := onS hW150 (HS149.out.st 3 rfl 2 _)
     have HRk150 := hide (Px.onto hW150 (HRk149.out.st (by simp) _ _))
     clear HRk149
     clear hW150 HS149
     clear p3
     refine wpAnyH_done (by kernel_rfl) ?_ _
     have p0 := rD HS150
     go_wp2_with fail
     refine namedWp fun W152 hW152 => ?_
     have HS152 := hide (St.onto hW152 HS150.out)
     have HRk152 := hide (Px.onto hW152 HRk150.out)
     clear HRk150
     clear hW152 HS150
     clear p0
     have HNn151 := hide (show Nx w W152 [w.heap.size, w.heap.size + 1, w.heap.size + 1 + 1, w3.heap.size, w6.heap.size, w107.heap.size] (Nd.of 33 t2.text ([d107] ++ [.mk 4 (t125.text.extract 1 t125.text.size) .nil])) (.agg #[.int .i64 33, .string t2.text, .slice y149 n149 c149]) from Px.node HRk152.out (by omega) (by simp only [maxLen]; omega))
     clear HRk152
     refine namedWp fun W153 hW153 => ?_
     have HS153 := hide (St.onto hW153 HS152.out)
     have HNn153 := hide (Nx.onto hW153 HNn151.out)
     clear HNn151
     clear hW153 HS152
     refine rgn HS153.out [4, 3] fun W154 hW154 => ?_
     have HS154 := hide (St.onto hW154 HS153.out.dr)
     have HNn154 := hide (Nx.onto hW154 HNn153.out.dr)
     clear HNn153
     clear hW154 HS153
     refine tK 0 (kS HS154.out [4, 3]) ?_
     refine tK 3 (kS HS154.out [4, 3]) ?_
     refine rY 1 fun K hK => ?_
     go_simp
     refine (next_in (n := l.length) ⟨_, _, _, rfl⟩ (by omega) hlen).mono ?_
     rintro e w156 ⟨⟨j155, rfl, hj155, hl155, hp155⟩, hb156⟩
     have HS156 := hide (HS154.out.call hb156)
     have HNn156 := hide (HNn154.out.call hb156)
     clear HNn154
     clear hb156 HS154
     go_simp
     refine onK hK (kS HS156.out [4, 3]) ?_
     clear hK K
     refine rY 2 fun K hK => ?_
     go_simp
     have p0 := rD HS156
     refine (need_any ⟨#[59]⟩ (hi.below HS156.out.below) (by omega)).mono ?_
     rintro e w158 ⟨⟨i157, bad157, rfl, hr157⟩, hb158⟩
     have HS158 := hide (HS156.out.call hb158)
     have HNn158 := hide (HNn156.out.call hb158)
     clear HNn156
     clear hb158 HS156
     clear p0
     obtain ⟨hi157, hl157, hp157, hj157⟩ := hr157.out (by omega)
     have hq157 := hr157.less (by omega)
     clear hr157
     go_simp
     refine onK hK (kS HS158.out [4, 3]) ?_
     clear hK K
     refine rY 4 fun K hK => ?_
     have p1 := rG HS158 1
     go_simp
     refine onW hK (kS (HS158.out.st3 1 rfl _ _ _) [4, 3]) fun W159 hW159 => ?_
     clear hK K
     have HS159 := onS hW159 (HS158.out.st3 1 rfl _ _ _)
     have HNn159 := hide (Nx.onto hW159 (HNn158.out.st3 (by simp) _ _ _))
     clear HNn158
     clear hW159 HS158
     clear p1
     refine rY 5 fun K hK => ?_
     have p2 := rG HS159 2
     go_simp
     refine onW hK (kS (HS159.out.st3 2 rfl _ _ _) [4, 3]) fun W160 hW160 => ?_
     clear hK K
     have HS160 := onS hW160 (HS159.out.st3 2 rfl _ _ _)
     have HNn160 := hide (Nx.onto hW160 (HNn159.out.st3 (by simp) _ _ _))
     clear HNn159
     clear hW160 HS159
     clear p2
     refine wpAnyH_done (by kernel_rfl) ?_ _
     go_wp2_with fail
     refine namedPost fun W161 hW161 => ?_
     have HS161 := hide (St.onto hW161 HS160.out)
     have HNn161 := hide (Nx.onto hW161 HNn160.out)
     clear HNn160
     clear hW161 HS160
     exact ended_pn rfl rfl rfl (HS161.out.get 1 rfl) (HS161.out.get 2 rfl) ⟨⟨_, _, _, _, _, _, _, _, rfl, HNn161.out.out, ⟨by omega, by omega, by omega⟩, by rw [cntOf, cntL_app, cntL_one, cntL_one, cntLeaf]; omega⟩, HS161.out.below⟩
    clear p0
    obtain ⟨v162, w162, hr162, hH162, hS162⟩ := HRk148.out.snoc HS148.out rfl (by simp) (by simp)
    simp only [List.length_cons, List.length_nil, Nat.zero_add] at hr162
    obtain ⟨y162, n162, c162, rfl⟩ := hH162.form'
    have HX162 := hide hr162
    clear hr162
    go_simp
    refine onK hK (kS (HS148.out.al _) [4]) ?_
    clear hK K
    refine rY 1 fun K hK => ?_
    obtain ⟨z1620, z1621, z1622, z1623, z1624, z1625⟩ := ((HS148.out.al (.cells #[.int .i64 4, .string (t125.text.extract 1 t125.text.size), .slice none 0 0] 24)).get 3 rfl).three
    go_simp
    refine onK hK (kS (HS148.out.al _) [4]) ?_
    clear hK K
    clear z1620 z1621 z1622 z1623 z1624 z1625
    refine rY 8 fun K hK => ?_
    rw [if_pos (show Region.wanted _ _ = true from rfl)]
    refine wp_append_run (.tmp 77) (.tmp 83) rfl rfl rfl rfl HX162.out ?_
    refine onK hK (kS hS162 [4]) ?_
    clear hK K
    clear HX162 HS148 HRk148
    have HS162 := hide hS162
    have HRk162 := hide hH162
    clear hS162 hH162
    refine tK 9 (kS HS162.out [4]) ?_
    refine rY 10 fun K hK => ?_
    have p3 := rG HS162 3
    go_simp
    refine onW hK (kS (HS162.out.st 3 rfl 2 _) [4]) fun W163 hW163 => ?_
    clear hK K
    have HS163 := onS hW163 (HS162.out.st 3 rfl 2 _)
    have HRk163 := hide (Px.onto hW163 (HRk162.out.st (by simp) _ _))
    clear HRk162
    clear hW163 HS162
    clear p3
    refine wpAnyH_done (by kernel_rfl) ?_ _
    have p0 := rD HS163
    go_wp2_with fail
    refine namedWp fun W165 hW165 => ?_
    have HS165 := hide (St.onto hW165 HS163.out)
    have HRk165 := hide (Px.onto hW165 HRk163.out)
    clear HRk163
    clear hW165 HS163
    clear p0
    have HNn164 := hide (show Nx w W165 [w.heap.size, w.heap.size + 1, w.heap.size + 1 + 1, w3.heap.size, w6.heap.size, w107.heap.size] (Nd.of 33 t2.text ([d107] ++ [.mk 4 (t125.text.extract 1 t125.text.size) .nil])) (.agg #[.int .i64 33, .string t2.text, .slice y162 n162 c162]) from Px.node HRk165.out (by omega) (by simp only [maxLen]; omega))
    clear HRk165
    refine namedWp fun W166 hW166 => ?_
    have HS166 := hide (St.onto hW166 HS165.out)
    have HNn166 := hide (Nx.onto hW166 HNn164.out)
    clear HNn164
    clear hW166 HS165
    refine rgn HS166.out [4, 3] fun W167 hW167 => ?_
    have HS167 := hide (St.onto hW167 HS166.out.dr)
    have HNn167 := hide (Nx.onto hW167 HNn166.out.dr)
    clear HNn166
    clear hW167 HS166
    refine tK 0 (kS HS167.out [4, 3]) ?_
    refine tK 3 (kS HS167.out [4, 3]) ?_
    refine rY 1 fun K hK => ?_
    go_simp
    refine (next_in (n := l.length) ⟨_, _, _, rfl⟩ (by omega) hlen).mono ?_
    rintro e w169 ⟨⟨j168, rfl, hj168, hl168, hp168⟩, hb169⟩
    have HS169 := hide (HS167.out.call hb169)
    have HNn169 := hide (HNn167.out.call hb169)
    clear HNn167
    clear hb169 HS167
    go_simp
    refine onK hK (kS HS169.out [4, 3]) ?_
    clear hK K
    refine rY 2 fun K hK => ?_
    go_simp
    have p0 := rD HS169
    refine (need_any ⟨#[59]⟩ (hi.below HS169.out.below) (by omega)).mono ?_
    rintro e w171 ⟨⟨i170, bad170, rfl, hr170⟩, hb171⟩
    have HS171 := hide (HS169.out.call hb171)
    have HNn171 := hide (HNn169.out.call hb171)
    clear HNn169
    clear hb171 HS169
    clear p0
    obtain ⟨hi170, hl170, hp170, hj170⟩ := hr170.out (by omega)
    have hq170 := hr170.less (by omega)
    clear hr170
    go_simp
    refine onK hK (kS HS171.out [4, 3]) ?_
    clear hK K
    refine rY 4 fun K hK => ?_
    have p1 := rG HS171 1
    go_simp
    refine onW hK (kS (HS171.out.st3 1 rfl _ _ _) [4, 3]) fun W172 hW172 => ?_
    clear hK K
    have HS172 := onS hW172 (HS171.out.st3 1 rfl _ _ _)
    have HNn172 := hide (Nx.onto hW172 (HNn171.out.st3 (by simp) _ _ _))
    clear HNn171
    clear hW172 HS171
    clear p1
    refine rY 5 fun K hK => ?_
    have p2 := rG HS172 2
    go_simp
    refine onW hK (kS (HS172.out.st3 2 rfl _ _ _) [4, 3]) fun W173 hW173 => ?_
    clear hK K
    have HS173 := onS hW173 (HS172.out.st3 2 rfl _ _ _)
    have HNn173 := hide (Nx.onto hW173 (HNn172.out.st3 (by simp) _ _ _))
    clear HNn172
    clear hW173 HS172
    clear p2
    refine wpAnyH_done (by kernel_rfl) ?_ _
    go_wp2_with fail
    refine namedPost fun W174 hW174 => ?_
    have HS174 := hide (St.onto hW174 HS173.out)
    have HNn174 := hide (Nx.onto hW174 HNn173.out)
    clear HNn173
    clear hW174 HS173
    exact ended_pn rfl rfl rfl (HS174.out.get 1 rfl) (HS174.out.get 2 rfl) ⟨⟨_, _, _, _, _, _, _, _, rfl, HNn174.out.out, ⟨by omega, by omega, by omega⟩, by rw [cntOf, cntL_app, cntL_one, cntL_one, cntLeaf]; omega⟩, HS174.out.below⟩
   have he175 : (t125.kind == 5) = false := by simpa using hk127
   have hn175 : (t125.kind != 5) = true := by simpa using hk127
   clear hk127
   go_wp2_with fail
   refine (name_any (hi.below HS126.out.below) (by omega)).mono ?_
   rintro e w177 ⟨⟨i176, bad176, s176, rfl, hz176, hr176, hkk176⟩, hb177⟩
   have HS177 := hide (HS126.out.call hb177)
   have HRk177 := hide (HRk126.out.call hb177)
   clear HRk126
   clear hb177 HS126
   clear p0
   obtain ⟨hi176, hl176, hp176, hj176⟩ := hr176.out (by omega)
   clear hr176 hkk176
   have p0 := rD HS177
   go_wp2_with (refine stopAt 95 ?_)
   have lv178 := lV HS177
   refine namedStop fun W178 hW178 => ?_
   have HS178 := onS hW178 HS177.out.va
   have HRk178 := hide (Px.onto hW178 (HRk177.out.var (g := w177.heap.size) (by simp) _))
   clear HRk177
   clear hW178 HS177
   clear p0
   have p0 := rD HS178
   have HRk179 := hide (show Px w W178 [w.heap.size, w.heap.size + 1, w.heap.size + 1 + 1, w3.heap.size, w6.heap.size, w107.heap.size, w177.heap.size] (.slice (some ⟨W109.heap.size, 0, none⟩) 1 1) [d107] [.mk 31 s176 .nil] [.int .i64 31, .string s176, .slice none 0 0] from Px.leaf HRk178.out (by omega) (by simp only [maxLen]; omega))
   clear HRk178
   have lv180 := lV HS178
   have hSt180 : St w W178 [pe w.heap.size (some ⟨ab, ao, none⟩) l cap i false, pz (w.heap.size + 1), nz (w.heap.size + 1 + 1), ne w3.heap.size 33 t2.text (some ⟨W109.heap.size, 0, none⟩) 1 1, pe w6.heap.size (some ⟨ab, ao, none⟩) l cap i122 bad122, ne w107.heap.size k107 s107 y107 m107 c107, pe w177.heap.size (some ⟨ab, ao, none⟩) l cap i176 bad176] := HS178.out
   have hPx180 : Px w W178 [w.heap.size, w.heap.size + 1, w.heap.size + 1 + 1, w3.heap.size, w6.heap.size, w107.heap.size, w177.heap.size] (.slice (some ⟨W109.heap.size, 0, none⟩) 1 1) [d107] [.mk 31 s176 .nil] [.int .i64 31, .string s176, .slice none 0 0] := HRk179.out
   obtain ⟨v180, w180, hr180, hH180, hS180⟩ := hPx180.snoc hSt180 rfl (by simp) (by simp)
   simp only [List.length_cons, List.length_nil, Nat.zero_add] at hr180
   obtain ⟨y180, n180, c180, rfl⟩ := hH180.form'
   clear hSt180 hPx180 HS178 HRk179
   have HS180 := hide hS180
   have HRk180 := hide hH180
   clear hS180 hH180
   have rr0 := rD HS180
   go_wp2_with (at_builtin; refine wpList_append_run rfl _ _ (by rfl) (by rfl) (by rfl) (by rfl) hr180 ?_)
   clear hr180 p0
   refine namedWp fun W182 hW182 => ?_
   have HS182 := onS hW182 (HS180.out.st 3 rfl 2 _)
   have HRk182 := hide (Px.onto hW182 (HRk180.out.st (by simp) _ _))
   clear HRk180
   clear hW182 HS180
   clear rr0
   have HNn181 := hide (show Nx w W182 [w.heap.size, w.heap.size + 1, w.heap.size + 1 + 1, w3.heap.size, w6.heap.size, w107.heap.size, w177.heap.size] (Nd.of 33 t2.text ([d107] ++ [.mk 31 s176 .nil])) (.agg #[.int .i64 33, .string t2.text, .slice y180 n180 c180]) from Px.node HRk182.out (by omega) (by simp only [maxLen]; omega))
   clear HRk182
   refine namedWp fun W183 hW183 => ?_
   have HS183 := hide (St.onto hW183 HS182.out)
   have HNn183 := hide (Nx.onto hW183 HNn181.out)
   clear HNn181
   clear hW183 HS182
   refine rgn HS183.out [6, 3] fun W184 hW184 => ?_
   have HS184 := hide (St.onto hW184 HS183.out.dr)
   have HNn184 := hide (Nx.onto hW184 HNn183.out.dr)
   clear HNn183
   clear hW184 HS183
   refine tK 0 (kS HS184.out [6, 3]) ?_
   refine tK 2 (kS HS184.out [6, 3]) ?_
   refine rY 1 fun K hK => ?_
   go_simp
   refine (need_any ⟨#[59]⟩ (hi.below HS184.out.below) (by omega)).mono ?_
   rintro e w186 ⟨⟨i185, bad185, rfl, hr185⟩, hb186⟩
   have HS186 := hide (HS184.out.call hb186)
   have HNn186 := hide (HNn184.out.call hb186)
   clear HNn184
   clear hb186 HS184
   obtain ⟨hi185, hl185, hp185, hj185⟩ := hr185.out (by omega)
   clear hr185
   go_simp
   refine onK hK (kS HS186.out [6, 3]) ?_
   clear hK K
   refine rY 3 fun K hK => ?_
   have p1 := rG HS186 1
   go_simp
   refine onW hK (kS (HS186.out.st3 1 rfl _ _ _) [6, 3]) fun W187 hW187 => ?_
   clear hK K
   have HS187 := onS hW187 (HS186.out.st3 1 rfl _ _ _)
   have HNn187 := hide (Nx.onto hW187 (HNn186.out.st3 (by simp) _ _ _))
   clear HNn186
   clear hW187 HS186
   clear p1
   refine rY 4 fun K hK => ?_
   have p2 := rG HS187 2
   go_simp
   refine onW hK (kS (HS187.out.st3 2 rfl _ _ _) [6, 3]) fun W188 hW188 => ?_
   clear hK K
   have HS188 := onS hW188 (HS187.out.st3 2 rfl _ _ _)
   have HNn188 := hide (Nx.onto hW188 (HNn187.out.st3 (by simp) _ _ _))
   clear HNn187
   clear hW188 HS187
   clear p2
   refine wpAnyH_done (by kernel_rfl) ?_ _
   go_wp2_with fail
   refine namedPost fun W189 hW189 => ?_
   have HS189 := hide (St.onto hW189 HS188.out)
   have HNn189 := hide (Nx.onto hW189 HNn188.out)
   clear HNn188
   clear hW189 HS188
   exact ended_pn rfl rfl rfl (HS189.out.get 1 rfl) (HS189.out.get 2 rfl) ⟨⟨_, _, _, _, _, _, _, _, rfl, HNn189.out.out, ⟨by omega, by omega, by omega⟩, by rw [cntOf, cntL_app, cntL_one, cntL_one, cntLeaf]; omega⟩, HS189.out.below⟩
  have he190 : (t8.kind == 7) = false := by simpa using hk10
  have hn190 : (t8.kind != 7) = true := by simpa using hk10
  clear hk10
  go_wp2_with fail
  refine namedWp fun W191 hW191 => ?_
  have HS191 := hide (St.onto hW191 HS9.out)
  clear hW191 HS9
  clear p0
  have HNn192 := hide (show Nx w W191 [w.heap.size, w.heap.size + 1, w.heap.size + 1 + 1, w3.heap.size, w6.heap.size] (Nd.mk 33 t2.text .nil) (.agg #[.int .i64 33, .string t2.text, .slice none 0 0]) from Nx.leaf (by omega) (by simp only [maxLen]; omega))
  refine namedWp fun W193 hW193 => ?_
  have HS193 := hide (St.onto hW193 HS191.out)
  have HNn193 := hide (Nx.onto hW193 HNn192.out)
  clear HNn192
  clear hW193 HS191
  refine rgn HS193.out [4, 3] fun W194 hW194 => ?_
  have HS194 := hide (St.onto hW194 HS193.out.dr)
  have HNn194 := hide (Nx.onto hW194 HNn193.out.dr)
  clear HNn193
  clear hW194 HS193
  refine tK 0 (kS HS194.out [4, 3]) ?_
  refine tK 2 (kS HS194.out [4, 3]) ?_
  refine rY 1 fun K hK => ?_
  go_simp
  refine (wrong_any _ _ _ _ ⟨_, _, _, rfl⟩).mono ?_
  rintro e w196 ⟨rfl, hb196⟩
  have HS196 := hide (HS194.out.call hb196)
  have HNn196 := hide (HNn194.out.call hb196)
  clear HNn194
  clear hb196 HS194
  have p0 := rD HS196
  go_wp2_with fail
  have hwr195 := left_wrong l.length j5 false
  go_simp
  refine onK hK (kS HS196.out [4, 3]) ?_
  clear hK K
  refine rY 3 fun K hK => ?_
  clear p0
  have p1 := rG HS196 1
  go_simp
  refine onW hK (kS (HS196.out.st3 1 rfl _ _ _) [4, 3]) fun W197 hW197 => ?_
  clear hK K
  have HS197 := onS hW197 (HS196.out.st3 1 rfl _ _ _)
  have HNn197 := hide (Nx.onto hW197 (HNn196.out.st3 (by simp) _ _ _))
  clear HNn196
  clear hW197 HS196
  clear p1
  refine rY 4 fun K hK => ?_
  have p2 := rG HS197 2
  go_simp
  refine onW hK (kS (HS197.out.st3 2 rfl _ _ _) [4, 3]) fun W198 hW198 => ?_
  clear hK K
  have HS198 := onS hW198 (HS197.out.st3 2 rfl _ _ _)
  have HNn198 := hide (Nx.onto hW198 (HNn197.out.st3 (by simp) _ _ _))
  clear HNn197
  clear hW198 HS197
  clear p2
  refine wpAnyH_done (by kernel_rfl) ?_ _
  go_wp2_with fail
  refine namedPost fun W199 hW199 => ?_
  have HS199 := hide (St.onto hW199 HS198.out)
  have HNn199 := hide (Nx.onto hW199 HNn198.out)
  clear HNn198
  clear hW199 HS198
  exact ended_pn rfl rfl rfl (HS199.out.get 1 rfl) (HS199.out.get 2 rfl) ⟨⟨_, _, _, _, _, _, _, _, rfl, HNn199.out.out, ⟨by omega, by omega, by omega⟩, by rw [cntLeaf]; omega⟩, HS199.out.below⟩
end Go.Proofs.YtacgmmpdichlmaaGreat
