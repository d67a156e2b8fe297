/-
  The reference's worded: a term that begins with a word. Its condition: the parser's items lie in memory.
-/
import Derived.Test.YtacgmmpdichlmaaGreatM04
namespace Go.Proofs.YtacgmmpdichlmaaGreat
open Go.RowKit
attribute [local go_sem ↓] Go.wp_at_zero Go.wp_at_succ

set_option maxRecDepth 4000 in
set_option maxHeartbeats 4000000 in
theorem worded_k {l : List Tk} {a : Option Addr} {cap m : Nat} (K : Kn l a cap m) {i : Nat}  {w : World} (hi : Its w a l) (hlt : i < l.length) (hm : leftP l.length i false ≤ m) : Calls Tryz.prog 117 #[.agg #[.slice a l.length cap, .int .i64 i, .bool false]] w (PN l a cap w i false 2) := by
  have HK := hide K
  have hlen := hi.2.1
  have hat : i ≤ l.length := by omega
  clear K
  go_enter Tryz.func117, Tryz.ntmps117
  go_wp2_with fail
  refine named fun W1 hW1 => ?_
  have HS1 := onS hW1 (St.nil w).va.va.va
  clear hW1
  obtain ⟨t2, ht2⟩ : ∃ t, tokAt l i false = t := ⟨_, rfl⟩
  have hok2 := tokAt_ok hi.2.2 i false
  rw [ht2] at hok2
  obtain ⟨hkb2, hz2, hone2⟩ := hok2
  have HT2 := hide ht2
  clear ht2
  have Hone2 := hide hone2
  clear hone2
  have hfa2 := fieldT0 t2.kind t2.text
  have hfb2 := fieldT1 t2.kind t2.text
  refine (tok_any (hi.below HS1.out.below)).mono ?_
  rintro e w3 ⟨rfl, hb3⟩
  rw [HT2.out]
  have HS3 := hide (HS1.out.call hb3)
  clear hb3 HS1
  have p0 := rD HS3
  cases hq4 : (t2.text.toList == [105, 102])
  case true =>
   go_wp2_with fail
   refine (next_in (n := l.length) ⟨_, _, _, rfl⟩ (by omega) hlen).mono ?_
   rintro e w6 ⟨⟨j5, rfl, hj5, hl5, hp5⟩, hb6⟩
   have HS6 := hide (HS3.out.call hb6)
   clear hb6 HS3
   clear p0
   have p0 := rD HS6
   go_wp2_with fail
   refine (HK.out.ifs (hi.below HS6.out.below) (by omega) (by omega)).mono ?_
   rintro e w7 ⟨⟨i7, bad7, d7, k7, s7, y7, m7, c7, rfl, hn7, ⟨hi7, hl7, hp7⟩, hc7⟩, hb7⟩
   have HS7 := hide (HS6.out.call hb7)
   have HNx7 := hide (show Nx w w7 [w.heap.size, w.heap.size + 1, w.heap.size + 1 + 1] _ _ from Nx.made hn7 HS6.out)
   clear hn7 hb7 HS6
   clear p0
   have p0 := rD HS7
   go_wp2_with fail
   have lv8 := lV HS7
   refine namedWp fun W8 hW8 => ?_
   have HS8 := onS hW8 HS7.out.va.va
   have HNx8 := hide (Nx.onto hW8 ((HNx7.out.var (g := w7.heap.size) (by simp) _).var (g := w7.heap.size + 1) (by simp) _))
   clear HNx7
   clear hW8 HS7
   clear p0
   refine rgn HS8.out [3, 4] fun W9 hW9 => ?_
   have HS9 := hide (St.onto hW9 HS8.out.dr)
   have HNx9 := hide (Nx.onto hW9 HNx8.out.dr)
   clear HNx8
   clear hW9 HS8
   refine tK 0 (kS HS9.out [3, 4]) ?_
   refine tK 1 (kS HS9.out [3, 4]) ?_
   refine rY 2 fun K hK => ?_
   have p1 := rG HS9 1
   go_simp
   refine onW hK (kS (HS9.out.st3 1 rfl _ _ _) [3, 4]) fun W10 hW10 => ?_
   clear hK K
   have HS10 := onS hW10 (HS9.out.st3 1 rfl _ _ _)
   have HNx10 := hide (Nx.onto hW10 (HNx9.out.st3 (by simp) _ _ _))
   clear HNx9
   clear hW10 HS9
   clear p1
   refine rY 3 fun K hK => ?_
   have p2 := rG HS10 2
   go_simp
   refine onW hK (kS (HS10.out.st3 2 rfl _ _ _) [3, 4]) fun W11 hW11 => ?_
   clear hK K
   have HS11 := onS hW11 (HS10.out.st3 2 rfl _ _ _)
   have HNx11 := hide (Nx.onto hW11 (HNx10.out.st3 (by simp) _ _ _))
   clear HNx10
   clear hW11 HS10
   clear p2
   refine wpAnyH_done (by kernel_rfl) ?_ _
   go_wp2_with fail
   refine namedPost fun W12 hW12 => ?_
   have HS12 := hide (St.onto hW12 HS11.out)
   have HNx12 := hide (Nx.onto hW12 HNx11.out)
   clear HNx11
   clear hW12 HS11
   exact ended_pn rfl rfl rfl (HS12.out.get 1 rfl) (HS12.out.get 2 rfl) ⟨⟨_, _, _, _, _, _, _, _, rfl, HNx12.out.out, ⟨by omega, by omega, by omega⟩, by omega⟩, HS12.out.below⟩
  cases hq13 : (t2.text.toList == [114, 101, 100, 117, 99, 101])
  case true =>
   go_wp2_with fail
   refine (next_in (n := l.length) ⟨_, _, _, rfl⟩ (by omega) hlen).mono ?_
   rintro e w15 ⟨⟨j14, rfl, hj14, hl14, hp14⟩, hb15⟩
   have HS15 := hide (HS3.out.call hb15)
   clear hb15 HS3
   clear p0
   have p0 := rD HS15
   go_wp2_with fail
   refine (HK.out.fold 16 2 (by omega) (hi.below HS15.out.below) (by omega) (by omega)).mono ?_
   rintro e w16 ⟨⟨i16, bad16, d16, k16, s16, y16, m16, c16, rfl, hn16, ⟨hi16, hl16, hp16⟩, hc16⟩, hb16⟩
   have HS16 := hide (HS15.out.call hb16)
   have HNx16 := hide (show Nx w w16 [w.heap.size, w.heap.size + 1, w.heap.size + 1 + 1] _ _ from Nx.made hn16 HS15.out)
   clear hn16 hb16 HS15
   clear p0
   have p0 := rD HS16
   go_wp2_with fail
   have lv17 := lV HS16
   refine namedWp fun W17 hW17 => ?_
   have HS17 := onS hW17 HS16.out.va.va
   have HNx17 := hide (Nx.onto hW17 ((HNx16.out.var (g := w16.heap.size) (by simp) _).var (g := w16.heap.size + 1) (by simp) _))
   clear HNx16
   clear hW17 HS16
   clear p0
   refine rgn HS17.out [3, 4] fun W18 hW18 => ?_
   have HS18 := hide (St.onto hW18 HS17.out.dr)
   have HNx18 := hide (Nx.onto hW18 HNx17.out.dr)
   clear HNx17
   clear hW18 HS17
   refine tK 0 (kS HS18.out [3, 4]) ?_
   refine tK 1 (kS HS18.out [3, 4]) ?_
   refine rY 2 fun K hK => ?_
   have p1 := rG HS18 1
   go_simp
   refine onW hK (kS (HS18.out.st3 1 rfl _ _ _) [3, 4]) fun W19 hW19 => ?_
   clear hK K
   have HS19 := onS hW19 (HS18.out.st3 1 rfl _ _ _)
   have HNx19 := hide (Nx.onto hW19 (HNx18.out.st3 (by simp) _ _ _))
   clear HNx18
   clear hW19 HS18
   clear p1
   refine rY 3 fun K hK => ?_
   have p2 := rG HS19 2
   go_simp
   refine onW hK (kS (HS19.out.st3 2 rfl _ _ _) [3, 4]) fun W20 hW20 => ?_
   clear hK K
   have HS20 := onS hW20 (HS19.out.st3 2 rfl _ _ _)
   have HNx20 := hide (Nx.onto hW20 (HNx19.out.st3 (by simp) _ _ _))
   clear HNx19
   clear hW20 HS19
   clear p2
   refine wpAnyH_done (by kernel_rfl) ?_ _
   go_wp2_with fail
   refine namedPost fun W21 hW21 => ?_
   have HS21 := hide (St.onto hW21 HS20.out)
   have HNx21 := hide (Nx.onto hW21 HNx20.out)
   clear HNx20
   clear hW21 HS20
   exact ended_pn rfl rfl rfl (HS21.out.get 1 rfl) (HS21.out.get 2 rfl) ⟨⟨_, _, _, _, _, _, _, _, rfl, HNx21.out.out, ⟨by omega, by omega, by omega⟩, by omega⟩, HS21.out.below⟩
  cases hq22 : (t2.text.toList == [102, 111, 114, 101, 97, 99, 104])
  case true =>
   go_wp2_with fail
   refine (next_in (n := l.length) ⟨_, _, _, rfl⟩ (by omega) hlen).mono ?_
   rintro e w24 ⟨⟨j23, rfl, hj23, hl23, hp23⟩, hb24⟩
   have HS24 := hide (HS3.out.call hb24)
   clear hb24 HS3
   clear p0
   have p0 := rD HS24
   go_wp2_with fail
   refine (HK.out.fold 17 3 (by omega) (hi.below HS24.out.below) (by omega) (by omega)).mono ?_
   rintro e w25 ⟨⟨i25, bad25, d25, k25, s25, y25, m25, c25, rfl, hn25, ⟨hi25, hl25, hp25⟩, hc25⟩, hb25⟩
   have HS25 := hide (HS24.out.call hb25)
   have HNx25 := hide (show Nx w w25 [w.heap.size, w.heap.size + 1, w.heap.size + 1 + 1] _ _ from Nx.made hn25 HS24.out)
   clear hn25 hb25 HS24
   clear p0
   have p0 := rD HS25
   go_wp2_with fail
   have lv26 := lV HS25
   refine namedWp fun W26 hW26 => ?_
   have HS26 := onS hW26 HS25.out.va.va
   have HNx26 := hide (Nx.onto hW26 ((HNx25.out.var (g := w25.heap.size) (by simp) _).var (g := w25.heap.size + 1) (by simp) _))
   clear HNx25
   clear hW26 HS25
   clear p0
   refine rgn HS26.out [3, 4] fun W27 hW27 => ?_
   have HS27 := hide (St.onto hW27 HS26.out.dr)
   have HNx27 := hide (Nx.onto hW27 HNx26.out.dr)
   clear HNx26
   clear hW27 HS26
   refine tK 0 (kS HS27.out [3, 4]) ?_
   refine tK 1 (kS HS27.out [3, 4]) ?_
   refine rY 2 fun K hK => ?_
   have p1 := rG HS27 1
   go_simp
   refine onW hK (kS (HS27.out.st3 1 rfl _ _ _) [3, 4]) fun W28 hW28 => ?_
   clear hK K
   have HS28 := onS hW28 (HS27.out.st3 1 rfl _ _ _)
   have HNx28 := hide (Nx.onto hW28 (HNx27.out.st3 (by simp) _ _ _))
   clear HNx27
   clear hW28 HS27
   clear p1
   refine rY 3 fun K hK => ?_
   have p2 := rG HS28 2
   go_simp
   refine onW hK (kS (HS28.out.st3 2 rfl _ _ _) [3, 4]) fun W29 hW29 => ?_
   clear hK K
   have HS29 := onS hW29 (HS28.out.st3 2 rfl _ _ _)
   have HNx29 := hide (Nx.onto hW29 (HNx28.out.st3 (by simp) _ _ _))
   clear HNx28
   clear hW29 HS28
   clear p2
   refine wpAnyH_done (by kernel_rfl) ?_ _
   go_wp2_with fail
   refine namedPost fun W30 hW30 => ?_
   have HS30 := hide (St.onto hW30 HS29.out)
   have HNx30 := hide (Nx.onto hW30 HNx29.out)
   clear HNx29
   clear hW30 HS29
   exact ended_pn rfl rfl rfl (HS30.out.get 1 rfl) (HS30.out.get 2 rfl) ⟨⟨_, _, _, _, _, _, _, _, rfl, HNx30.out.out, ⟨by omega, by omega, by omega⟩, by omega⟩, HS30.out.below⟩
  cases hq31 : (t2.text.toList == [98, 114, 101, 97, 107])
  case true =>
   go_wp2_with fail
   refine (next_in (n := l.length) ⟨_, _, _, rfl⟩ (by omega) hlen).mono ?_
   rintro e w33 ⟨⟨j32, rfl, hj32, hl32, hp32⟩, hb33⟩
   have HS33 := hide (HS3.out.call hb33)
   clear hb33 HS3
   clear p0
   have p0 := rD HS33
   go_wp2_with fail
   refine (kind_any 5 1 (hi.below HS33.out.below) (by omega) (by decide) (fun h => (tokAt_ok hi.2.2 _ _).2.2 (by omega))).mono ?_
   rintro e w35 ⟨⟨i34, bad34, s34, rfl, hz34, hr34, hkk34⟩, hb35⟩
   have HS35 := hide (HS33.out.call hb35)
   clear hb35 HS33
   clear p0
   obtain ⟨hi34, hl34, hp34, hj34⟩ := hr34.out (by omega)
   have hq34 := hr34.less (by omega)
   clear hr34 hkk34
   have p0 := rD HS35
   go_wp2_with fail
   have lv36 := lV HS35
   refine namedPost fun W36 hW36 => ?_
   have HS36 := onS hW36 ((HS35.out.st3 1 rfl _ _ _).st3 2 rfl _ _ _).va
   have HNres36 := hide (show Nx w W36 [w.heap.size, w.heap.size + 1, w.heap.size + 1 + 1, w35.heap.size] (Nd.mk 28 s34 .nil) (.agg #[.int .i64 28, .string s34, .slice none 0 0]) from hW36 ▸ (Nx.leaf (by omega) (by simp only [maxLen]; omega)))
   clear hW36 HS35
   clear p0
   exact ended_pn rfl rfl rfl (HS36.out.get 1 rfl) (HS36.out.get 2 rfl) ⟨⟨_, _, _, _, _, _, _, _, rfl, HNres36.out.out, ⟨by omega, by omega, by omega⟩, by rw [cntLeaf]; omega⟩, HS36.out.below⟩
  go_wp2_with fail
  refine (tok_any (hi.below HS3.out.below)).mono ?_
  rintro e w37 ⟨rfl, hb37⟩
  rw [HT2.out]
  have HS37 := hide (HS3.out.call hb37)
  clear hb37 HS3
  clear p0
  have p0 := rD HS37
  go_wp2_with fail
  refine (key_any _ _).mono ?_
  rintro e w38 ⟨⟨ky, rfl⟩, hb38⟩
  have HS38 := hide (HS37.out.call hb38)
  clear hb38 HS37
  clear p0
  have p0 := rD HS38
  cases ky
  case true =>
   go_wp2_with fail
   refine (wrong_any _ _ _ _ ⟨_, _, _, rfl⟩).mono ?_
   rintro e w40 ⟨rfl, hb40⟩
   have HS40 := hide (HS38.out.call hb40)
   clear hb40 HS38
   clear p0
   have p0 := rD HS40
   go_wp2_with fail
   have hwr39 := left_wrong l.length i false
   refine namedPost fun W41 hW41 => ?_
   have HS41 := onS hW41 ((HS40.out.st3 1 rfl _ _ _).st3 2 rfl _ _ _)
   have HNres41 := hide (show Nx w W41 [w.heap.size, w.heap.size + 1, w.heap.size + 1 + 1] (Nd.mk 0 ⟨#[]⟩ .nil) (.agg #[.int .i64 0, .string ⟨#[]⟩, .slice none 0 0]) from hW41 ▸ (Nx.leaf (by omega) (by decide)))
   clear hW41 HS40
   clear p0
   exact ended_pn rfl rfl rfl (HS41.out.get 1 rfl) (HS41.out.get 2 rfl) ⟨⟨_, _, _, _, _, _, _, _, rfl, HNres41.out.out, ⟨by omega, by omega, by omega⟩, by rw [cntLeaf]; omega⟩, HS41.out.below⟩
  go_wp2_with fail
  refine (tok_any (hi.below HS38.out.below)).mono ?_
  rintro e w42 ⟨rfl, hb42⟩
  rw [HT2.out]
  have HS42 := hide (HS38.out.call hb42)
  clear hb42 HS38
  clear p0
  have p0 := rD HS42
  go_wp2_with fail
  have lv43 := lV HS42
  refine named fun W43 hW43 => ?_
  have HS43 := onS hW43 HS42.out.va
  clear hW43 HS42
  clear p0
  refine (next_in (n := l.length) ⟨_, _, _, rfl⟩ (by omega) hlen).mono ?_
  rintro e w45 ⟨⟨j44, rfl, hj44, hl44, hp44⟩, hb45⟩
  have HS45 := hide (HS43.out.call hb45)
  clear hb45 HS43
  have p0 := rD HS45
  go_wp2_with fail
  refine named fun W46 hW46 => ?_
  have HS46 := onS hW46 (HS45.out.st3 0 rfl _ _ _)
  clear hW46 HS45
  clear p0
  refine (op_any ⟨#[40]⟩ (hi.below HS46.out.below)).mono ?_
  rintro e w47 ⟨rfl, hb47⟩
  have HS47 := hide (HS46.out.call hb47)
  clear hb47 HS46
  have p0 := rD HS47
  cases hq48 : opB (tokAt l j44 false) ⟨#[40]⟩
  case false =>
   clear hq48
   go_wp2_with fail
   refine namedWp fun W49 hW49 => ?_
   have HS49 := hide (St.onto hW49 HS47.out)
   clear hW49 HS47
   clear p0
   have HNn50 := hide (show Nx w W49 [w.heap.size, w.heap.size + 1, w.heap.size + 1 + 1, w42.heap.size] (Nd.mk 13 t2.text .nil) (.agg #[.int .i64 13, .string t2.text, .slice none 0 0]) from Nx.leaf (by omega) (by simp only [maxLen]; omega))
   refine namedWp fun W51 hW51 => ?_
   have HS51 := hide (St.onto hW51 HS49.out)
   have HNn51 := hide (Nx.onto hW51 HNn50.out)
   clear HNn50
   clear hW51 HS49
   refine rgn HS51.out [0, 3] fun W52 hW52 => ?_
   have HS52 := hide (St.onto hW52 HS51.out.dr)
   have HNn52 := hide (Nx.onto hW52 HNn51.out.dr)
   clear HNn51
   clear hW52 HS51
   refine tK 0 (kS HS52.out [0, 3]) ?_
   refine tK 1 (kS HS52.out [0, 3]) ?_
   refine rY 2 fun K hK => ?_
   have p1 := rG HS52 1
   go_simp
   refine onW hK (kS (HS52.out.st3 1 rfl _ _ _) [0, 3]) fun W53 hW53 => ?_
   clear hK K
   have HS53 := onS hW53 (HS52.out.st3 1 rfl _ _ _)
   have HNn53 := hide (Nx.onto hW53 (HNn52.out.st3 (by simp) _ _ _))
   clear HNn52
   clear hW53 HS52
   clear p1
   refine rY 3 fun K hK => ?_
   have p2 := rG HS53 2
   go_simp
   refine onW hK (kS (HS53.out.st3 2 rfl _ _ _) [0, 3]) fun W54 hW54 => ?_
   clear hK K
   have HS54 := onS hW54 (HS53.out.st3 2 rfl _ _ _)
   have HNn54 := hide (Nx.onto hW54 (HNn53.out.st3 (by simp) _ _ _))
   clear HNn53
   clear hW54 HS53
   clear p2
   refine wpAnyH_done (by kernel_rfl) ?_ _
   go_wp2_with fail
   refine namedPost fun W55 hW55 => ?_
   have HS55 := hide (St.onto hW55 HS54.out)
   have HNn55 := hide (Nx.onto hW55 HNn54.out)
   clear HNn54
   clear hW55 HS54
   exact ended_pn rfl rfl rfl (HS55.out.get 1 rfl) (HS55.out.get 2 rfl) ⟨⟨_, _, _, _, _, _, _, _, rfl, HNn55.out.out, ⟨by omega, by omega, by omega⟩, by rw [cntLeaf]; omega⟩, HS55.out.below⟩
  have hlt56 := (opB_in hq48).2
  clear hq48
  go_wp2_with fail
  refine namedWp fun W57 hW57 => ?_
  have HS57 := hide (St.onto hW57 HS47.out)
  clear hW57 HS47
  clear p0
  go_loopw [] (fun wr => ∃ (x : Nat) (y : Option Addr) (q c : Nat) (ds : List Nd), St w wr [(w.heap.size, 86, #[.slice a l.length cap, .int .i64 x, .bool false]), (w.heap.size + 1, 86, #[.slice none 0 0, .int .i64 0, .bool false]), (w.heap.size + 1 + 1, 24, #[.int .i64 0, .string ⟨#[]⟩, .slice none 0 0]), (w42.heap.size, 24, #[.int .i64 13, .string t2.text, .slice y q c])] ∧ Hx w wr [w.heap.size, w.heap.size + 1, w.heap.size + 1 + 1, w42.heap.size] (.slice y q c) ds ∧ (i ≤ x ∧ x < l.length ∧ leftP l.length x false < leftP l.length i false ∧ cntL ds + 8 * (i + 1) ≤ 8 * x)) (fun wr => leftAt l.length w.heap.size wr)
  case atStart => exact ⟨j44, none, 0, 0, [], HS57.out, Hx.nil _ _ _, by omega, by omega, by omega, by rw [cntL_nil]; omega⟩
  obtain ⟨x, y, q, c, ds, hS, hH, hx1, hx2, hx3, hx4⟩ := hrel
  have hMp := hS.get 0 rfl
  have HSr := hide hS
  have HRk := hide hH
  clear hS hH HS57
  have hcl := len_cntL ds
  have p0 := rD HSr
  go_wp2_with fail
  refine (next_in (n := l.length) ⟨_, _, _, rfl⟩ (by omega) hlen).mono ?_
  rintro e w59 ⟨⟨j58, rfl, hj58, hl58, hp58⟩, hb59⟩
  have HS59 := hide (HSr.out.call hb59)
  have HRk59 := hide (HRk.out.call hb59)
  clear HRk
  clear hb59 HSr
  clear p0
  have p0 := rD HS59
  go_wp2_with fail
  refine (HK.out.pipe (hi.below HS59.out.below) (by omega) (by omega)).mono ?_
  rintro e w60 ⟨⟨i60, bad60, d60, k60, s60, y60, m60, c60, rfl, hn60, ⟨hi60, hl60, hp60⟩, hc60⟩, hb60⟩
  have HS60 := hide (HS59.out.call hb60)
  have HRk60 := hide (Px.made HRk59.out hn60 hb60 HS59.out rfl)
  clear HRk59
  have HNx60 := hide (show Nx w w60 [w.heap.size, w.heap.size + 1, w.heap.size + 1 + 1, w42.heap.size] _ _ from Nx.made hn60 HS59.out)
  clear hn60 hb60 HS59
  clear p0
  have p0 := rD HS60
  have lv61 := lV HS60
  have hSt61 : St w ((w60.alloc (.cells #[.slice a l.length cap, .int .i64 i60, .bool bad60] 86)).alloc (.cells #[.int .i64 k60, .string s60, .slice y60 m60 c60] 24)) [pe w.heap.size a l cap x false, pz (w.heap.size + 1), nz (w.heap.size + 1 + 1), ne w42.heap.size 13 t2.text y q c, pe w60.heap.size a l cap i60 bad60, ne (w60.heap.size + 1) k60 s60 y60 m60 c60] := ((HS60.out.var 86 _ (by simp)).var 24 _ (by simp))
  have hPx61 : Px w ((w60.alloc (.cells #[.slice a l.length cap, .int .i64 i60, .bool bad60] 86)).alloc (.cells #[.int .i64 k60, .string s60, .slice y60 m60 c60] 24)) [w.heap.size, w.heap.size + 1, w.heap.size + 1 + 1, w42.heap.size, w60.heap.size, w60.heap.size + 1] (.slice y q c) ds [d60] [.int .i64 k60, .string s60, .slice y60 m60 c60] := ((HRk60.out.var (g := w60.heap.size) (by simp) _).var (g := w60.heap.size + 1) (by simp) _)
  obtain ⟨v61, w61, hr61, hH61, hS61⟩ := hPx61.snoc hSt61 rfl (by simp only [List.length_cons, List.length_nil]; omega) (by simp)
  simp only [World.size_alloc, List.length_cons, List.length_nil, Nat.zero_add] at hr61
  obtain ⟨y61, n61, c61, rfl⟩ := hH61.form'
  clear hSt61 hPx61 HS60 HRk60 HNx60
  have HS61 := hide hS61
  have HRk61 := hide hH61
  clear hS61 hH61
  have rr0 := rD HS61
  go_wp2_with (at_builtin; refine wpList_append_run rfl _ _ (by rfl) (by rfl) (by rfl) (by rfl) hr61 ?_)
  clear hr61 p0
  refine named fun W62 hW62 => ?_
  have HS62 := onS hW62 (HS61.out.st 3 rfl 2 _)
  have HRk62 := hide (Px.onto hW62 (HRk61.out.st (by simp) _ _))
  clear HRk61
  clear hW62 HS61
  clear rr0
  refine (op_any ⟨#[59]⟩ (hi.below HS62.out.below)).mono ?_
  rintro e w63 ⟨rfl, hb63⟩
  have HS63 := hide (HS62.out.call hb63)
  have HRk63 := hide (HRk62.out.call hb63)
  clear HRk62
  clear hb63 HS62
  have p0 := rD HS63
  cases hq64 : opB (tokAt l i60 bad60) ⟨#[59]⟩
  case false =>
   clear hq64
   go_wp2_with fail
   refine namedWp fun W66 hW66 => ?_
   have HS66 := hide (St.onto hW66 HS63.out)
   have HRk66 := hide (Px.onto hW66 HRk63.out)
   clear HRk63
   clear hW66 HS63
   clear p0
   have HNn65 := hide (show Nx w W66 [w.heap.size, w.heap.size + 1, w.heap.size + 1 + 1, w42.heap.size, w60.heap.size, w60.heap.size + 1] (Nd.of 13 t2.text (ds ++ [d60])) (.agg #[.int .i64 13, .string t2.text, .slice y61 n61 c61]) from Px.node HRk66.out (by omega) (by simp only [maxLen]; omega))
   clear HRk66
   refine namedWp fun W67 hW67 => ?_
   have HS67 := hide (St.onto hW67 HS66.out)
   have HNn67 := hide (Nx.onto hW67 HNn65.out)
   clear HNn65
   clear hW67 HS66
   refine rgn HS67.out [4, 3] fun W68 hW68 => ?_
   have HS68 := hide (St.onto hW68 HS67.out.dr)
   have HNn68 := hide (Nx.onto hW68 HNn67.out.dr)
   clear HNn67
   clear hW68 HS67
   refine tK 0 (kS HS68.out [4, 3]) ?_
   refine tK 2 (kS HS68.out [4, 3]) ?_
   refine rY 1 fun K hK => ?_
   go_simp
   refine (need_any ⟨#[41]⟩ (hi.below HS68.out.below) (by omega)).mono ?_
   rintro e w70 ⟨⟨i69, bad69, rfl, hr69⟩, hb70⟩
   have HS70 := hide (HS68.out.call hb70)
   have HNn70 := hide (HNn68.out.call hb70)
   clear HNn68
   clear hb70 HS68
   obtain ⟨hi69, hl69, hp69, hj69⟩ := hr69.out (by omega)
   clear hr69
   go_simp
   refine onK hK (kS HS70.out [4, 3]) ?_
   clear hK K
   refine rY 3 fun K hK => ?_
   have p1 := rG HS70 1
   go_simp
   refine onW hK (kS (HS70.out.st3 1 rfl _ _ _) [4, 3]) fun W71 hW71 => ?_
   clear hK K
   have HS71 := onS hW71 (HS70.out.st3 1 rfl _ _ _)
   have HNn71 := hide (Nx.onto hW71 (HNn70.out.st3 (by simp) _ _ _))
   clear HNn70
   clear hW71 HS70
   clear p1
   refine rY 4 fun K hK => ?_
   have p2 := rG HS71 2
   go_simp
   refine onW hK (kS (HS71.out.st3 2 rfl _ _ _) [4, 3]) fun W72 hW72 => ?_
   clear hK K
   have HS72 := onS hW72 (HS71.out.st3 2 rfl _ _ _)
   have HNn72 := hide (Nx.onto hW72 (HNn71.out.st3 (by simp) _ _ _))
   clear HNn71
   clear hW72 HS71
   clear p2
   refine wpAnyH_done (by kernel_rfl) ?_ _
   go_wp2_with fail
   refine namedPost fun W73 hW73 => ?_
   have HS73 := hide (St.onto hW73 HS72.out)
   have HNn73 := hide (Nx.onto hW73 HNn72.out)
   clear HNn72
   clear hW73 HS72
   exact ended_pn rfl rfl rfl (HS73.out.get 1 rfl) (HS73.out.get 2 rfl) ⟨⟨_, _, _, _, _, _, _, _, rfl, HNn73.out.out, ⟨by omega, by omega, by omega⟩, by rw [cntOf, cntL_app, cntL_one]; omega⟩, HS73.out.below⟩
  obtain ⟨rfl, hlt74⟩ := opB_in hq64
  clear hq64
  go_wp2_with fail
  exact ⟨⟨i60, _, _, _, _, (HS63.out.st3 0 rfl _ _ _).cut 4 rfl, (HRk63.out.st3 (by simp) _ _ _).fewer (by simp), by omega, by omega, by omega, by rw [cntL_app, cntL_one]; omega⟩, by rw [leftAt_of ((HS63.out.st3 0 rfl _ _ _).get 0 rfl), leftAt_of hMp]; omega⟩
end Go.Proofs.YtacgmmpdichlmaaGreat
