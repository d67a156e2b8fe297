/-
  The reference's pattern. Its condition: the parser's items lie in memory.
-/
import Derived.Test.YtacgmmpdichlmaaGreatM04
namespace Go.Proofs.YtacgmmpdichlmaaGreat
open Go.RowKit
attribute [local go_sem ↓] Go.wp_at_zero Go.wp_at_succ

set_option maxRecDepth 4000 in
set_option maxHeartbeats 4000000 in
theorem pattern_k {l : List Tk} {a : Option Addr} {cap m : Nat} (K : Kn l a cap m) {i : Nat} {bad : Bool} {w : World} (hi : Its w a l) (hat : i ≤ l.length) (hm : leftP l.length i bad ≤ m) : Calls Tryz.prog 109 #[.agg #[.slice a l.length cap, .int .i64 i, .bool bad]] w (PN l a cap w i bad 2) := by
  have HK := hide K
  have hlen := hi.2.1
  clear K
  go_enter Tryz.func109, Tryz.ntmps109
  go_wp2_with fail
  refine named fun W1 hW1 => ?_
  have HS1 := onS hW1 (St.nil w).va.va.va
  clear hW1
  obtain ⟨t2, ht2⟩ : ∃ t, tokAt l i bad = t := ⟨_, rfl⟩
  have hok2 := tokAt_ok hi.2.2 i bad
  rw [ht2] at hok2
  obtain ⟨hkb2, hz2, hone2⟩ := hok2
  have HT2 := hide ht2
  clear ht2
  have Hone2 := hide hone2
  clear hone2
  have hfa2 := fieldT0 t2.kind t2.text
  have hfb2 := fieldT1 t2.kind t2.text
  refine (tok_any (hi.below HS1.out.below)).mono ?_
  rintro e w3 ⟨rfl, hb3⟩
  rw [HT2.out]
  have HS3 := hide (HS1.out.call hb3)
  clear hb3 HS1
  have p0 := rD HS3
  by_cases hk4 : t2.kind = 5
  ·
   have h1s : (1 : Int) ≤ (t2.text.size : Int) := by have := Hone2.out (by omega); omega
   have he5 : (t2.kind == 5) = true := by simpa using hk4
   have hn5 : (t2.kind != 5) = false := by simpa using hk4
   have HK5 := hide hk4
   clear hk4
   obtain ⟨rfl, hlt6⟩ := tokAt_kind (l := l) (i := i) (b := bad) (by rw [HT2.out, HK5.out]; decide)
   go_wp2_with fail
   refine namedWp fun W7 hW7 => ?_
   have HS7 := hide (St.onto hW7 HS3.out)
   clear hW7 HS3
   clear p0
   have HNres8 := hide (show Nx w W7 [w.heap.size, w.heap.size + 1, w.heap.size + 1 + 1] (Nd.mk 4 (t2.text.extract 1 t2.text.size) .nil) (.agg #[.int .i64 4, .string (t2.text.extract 1 t2.text.size), .slice none 0 0]) from Nx.leaf (by omega) (by simp only [ByteArray.size_extract, maxLen]; omega))
   refine namedWp fun W9 hW9 => ?_
   have HS9 := hide (St.onto hW9 HS7.out)
   have HNres9 := hide (Nx.onto hW9 HNres8.out)
   clear HNres8
   clear hW9 HS7
   refine rgn HS9.out [0] fun W10 hW10 => ?_
   have HS10 := hide (St.onto hW10 HS9.out.dr)
   have HNres10 := hide (Nx.onto hW10 HNres9.out.dr)
   clear HNres9
   clear hW10 HS9
   refine tK 0 (kS HS10.out [0]) ?_
   refine tK 2 (kS HS10.out [0]) ?_
   refine rY 1 fun K hK => ?_
   go_simp
   refine (next_in (n := l.length) ⟨_, _, _, rfl⟩ (by omega) hlen).mono ?_
   rintro e w12 ⟨⟨j11, rfl, hj11, hl11, hp11⟩, hb12⟩
   have HS12 := hide (HS10.out.call hb12)
   have HNres12 := hide (HNres10.out.call hb12)
   clear HNres10
   clear hb12 HS10
   go_simp
   refine onK hK (kS HS12.out [0]) ?_
   clear hK K
   refine rY 3 fun K hK => ?_
   go_simp
   refine (tok_any (hi.below HS12.out.below)).mono ?_
   rintro e w13 ⟨rfl, hb13⟩
   rw [HT2.out]
   have HS13 := hide (HS12.out.call hb13)
   have HNres13 := hide (HNres12.out.call hb13)
   clear HNres12
   clear hb13 HS12
   have p0 := rD HS13
   go_simp
   refine onK hK (kS HS13.out [0]) ?_
   clear hK K
   refine tK 4 (kS HS13.out [0]) ?_
   refine tK 5 (kS HS13.out [0]) ?_
   refine tK 6 (kS HS13.out [0]) ?_
   refine rY 7 fun K hK => ?_
   clear p0
   have p1 := rG HS13 1
   go_simp
   refine onW hK (kS (HS13.out.st3 1 rfl _ _ _) [0]) fun W14 hW14 => ?_
   clear hK K
   have HS14 := onS hW14 (HS13.out.st3 1 rfl _ _ _)
   have HNres14 := hide (Nx.onto hW14 (HNres13.out.st3 (by simp) _ _ _))
   clear HNres13
   clear hW14 HS13
   clear p1
   refine rY 8 fun K hK => ?_
   have p2 := rG HS14 2
   go_simp
   refine onW hK (kS (HS14.out.st3 2 rfl _ _ _) [0]) fun W15 hW15 => ?_
   clear hK K
   have HS15 := onS hW15 (HS14.out.st3 2 rfl _ _ _)
   have HNres15 := hide (Nx.onto hW15 (HNres14.out.st3 (by simp) _ _ _))
   clear HNres14
   clear hW15 HS14
   clear p2
   refine wpAnyH_done (by kernel_rfl) ?_ _
   go_wp2_with fail
   refine namedPost fun W16 hW16 => ?_
   have HS16 := hide (St.onto hW16 HS15.out)
   have HNres16 := hide (Nx.onto hW16 HNres15.out)
   clear HNres15
   clear hW16 HS15
   exact ended_pn rfl rfl rfl (HS16.out.get 1 rfl) (HS16.out.get 2 rfl) ⟨⟨_, _, _, _, _, _, _, _, rfl, HNres16.out.out, ⟨by omega, by omega, by omega⟩, by rw [cntLeaf]; omega⟩, HS16.out.below⟩
  have he17 : (t2.kind == 5) = false := by simpa using hk4
  have hn17 : (t2.kind != 5) = true := by simpa using hk4
  clear hk4
  go_wp2_with fail
  have lv18 := lV HS3
  refine named fun W18 hW18 => ?_
  have HS18 := onS hW18 HS3.out.va
  clear hW18 HS3
  clear p0
  refine (op_any ⟨#[123]⟩ (hi.below HS18.out.below)).mono ?_
  rintro e w19 ⟨rfl, hb19⟩
  have HS19 := hide (HS18.out.call hb19)
  clear hb19 HS18
  have p0 := rD HS19
  cases hq20 : opB (tokAt l i bad) ⟨#[123]⟩
  case true =>
   obtain ⟨rfl, hlt21⟩ := opB_in hq20
   clear hq20
   go_wp2_with fail
   refine namedWp fun W22 hW22 => ?_
   have HS22 := onS hW22 (HS19.out.st 3 rfl 0 _)
   clear hW22 HS19
   clear p0
   go_loopw [] (fun wr => ∃ (x : Nat) (y : Option Addr) (q c : Nat) (ds : List Nd), St w wr [(w.heap.size, 86, #[.slice a l.length cap, .int .i64 x, .bool false]), (w.heap.size + 1, 86, #[.slice none 0 0, .int .i64 0, .bool false]), (w.heap.size + 1 + 1, 24, #[.int .i64 0, .string ⟨#[]⟩, .slice none 0 0]), (w3.heap.size, 24, #[.int .i64 36, .string ⟨#[]⟩, .slice y q c])] ∧ Hx w wr [w.heap.size, w.heap.size + 1, w.heap.size + 1 + 1, w3.heap.size] (.slice y q c) ds ∧ (i ≤ x ∧ x < l.length ∧ leftP l.length x false ≤ leftP l.length i false ∧ cntL ds + 8 * i ≤ 8 * x)) (fun wr => leftAt l.length w.heap.size wr)
   case atStart => exact ⟨i, none, 0, 0, [], HS22.out, Hx.nil _ _ _, by omega, by omega, by omega, by rw [cntL_nil]; omega⟩
   obtain ⟨x, y, q, c, ds, hS, hH, hx1, hx2, hx3, hx4⟩ := hrel
   have hMp := hS.get 0 rfl
   have HSr := hide hS
   have HRk := hide hH
   clear hS hH HS22
   have hcl := len_cntL ds
   have p0 := rD HSr
   go_wp2_with fail
   refine (next_in (n := l.length) ⟨_, _, _, rfl⟩ (by omega) hlen).mono ?_
   rintro e w24 ⟨⟨j23, rfl, hj23, hl23, hp23⟩, hb24⟩
   have HS24 := hide (HSr.out.call hb24)
   have HRk24 := hide (HRk.out.call hb24)
   clear HRk
   clear hb24 HSr
   clear p0
   have p0 := rD HS24
   go_wp2_with fail
   have lv25 := lV HS24
   refine named fun W25 hW25 => ?_
   have HS25 := onS hW25 HS24.out.va.va
   have HRk25 := hide (Px.onto hW25 ((HRk24.out.var (g := w24.heap.size) (by simp) _).var (g := w24.heap.size + 1) (by simp) _))
   clear HRk24
   clear hW25 HS24
   clear p0
   refine (HK.out.keypat (hi.below HS25.out.below) (by omega) (by omega)).mono ?_
   rintro e w26 ⟨⟨i26, bad26, d26, k26, s26, y26, m26, c26, rfl, hn26, ⟨hi26, hl26, hp26⟩, hc26⟩, hb26⟩
   have HS26 := hide (HS25.out.call hb26)
   have HRk26 := hide (Px.made HRk25.out hn26 hb26 HS25.out rfl)
   clear HRk25
   have HNk226 := hide (show Nx w w26 [w.heap.size, w.heap.size + 1, w.heap.size + 1 + 1, w3.heap.size, w24.heap.size, w24.heap.size + 1] _ _ from Nx.made hn26 HS25.out)
   clear hn26 hb26 HS25
   have p0 := rD HS26
   go_wp2_with (refine stopAt 45 ?_)
   have lv27 := lV HS26
   refine namedStop fun W27 hW27 => ?_
   have HS27 := onS hW27 (HS26.out.st3 4 rfl _ _ _).va.va
   have HNk227 := hide (Nx.onto hW27 (((HNk226.out.st3 (by simp) _ _ _).var (g := w26.heap.size) (by simp) _).var (g := w26.heap.size + 1) (by simp) _))
   have HRk27 := hide (Px.onto hW27 (((HRk26.out.st3 (by simp) _ _ _).var (g := w26.heap.size) (by simp) _).var (g := w26.heap.size + 1) (by simp) _))
   clear HNk226 HRk26
   clear hW27 HS26
   clear p0
   have p0 := rD HS27
   go_wp2_with (refine stopAt 53 ?_)
   refine namedStop fun W28 hW28 => ?_
   have HS28 := onS hW28 (HS27.out.st3 5 rfl _ _ _)
   have HNk228 := hide (Nx.onto hW28 (HNk227.out.st3 (by simp) _ _ _))
   have HRk28 := hide (Px.onto hW28 (HRk27.out.st3 (by simp) _ _ _))
   clear HNk227 HRk27
   clear hW28 HS27
   clear p0
   have p0 := rD HS28
   have lv29 := lV HS28
   have hSt29 : St w W28 [pe w.heap.size a l cap x false, pz (w.heap.size + 1), nz (w.heap.size + 1 + 1), ne w3.heap.size 36 ⟨#[]⟩ y q c, pe w24.heap.size a l cap i26 bad26, ne (w24.heap.size + 1) k26 s26 y26 m26 c26, pe w26.heap.size a l cap i26 bad26, ne (w26.heap.size + 1) k26 s26 y26 m26 c26] := HS28.out
   have hPx29 : Px w W28 [w.heap.size, w.heap.size + 1, w.heap.size + 1 + 1, w3.heap.size, w24.heap.size, w24.heap.size + 1, w26.heap.size, w26.heap.size + 1] (.slice y q c) ds [d26] [.int .i64 k26, .string s26, .slice y26 m26 c26] := HRk28.out
   obtain ⟨v29, w29, hr29, hH29, hS29⟩ := hPx29.snoc hSt29 rfl (by simp only [List.length_cons, List.length_nil]; omega) (by simp)
   simp only [List.length_cons, List.length_nil, Nat.zero_add] at hr29
   obtain ⟨y29, n29, c29, rfl⟩ := hH29.form'
   clear hSt29 hPx29 HS28 HRk28 HNk228
   have HS29 := hide hS29
   have HRk29 := hide hH29
   clear hS29 hH29
   have rr0 := rD HS29
   go_wp2_with (at_builtin; refine wpList_append_run rfl _ _ (by rfl) (by rfl) (by rfl) (by rfl) hr29 ?_)
   clear hr29 p0
   refine named fun W30 hW30 => ?_
   have HS30 := onS hW30 (HS29.out.st 3 rfl 2 _)
   have HRk30 := hide (Px.onto hW30 (HRk29.out.st (by simp) _ _))
   clear HRk29
   clear hW30 HS29
   clear rr0
   refine (op_any ⟨#[44]⟩ (hi.below HS30.out.below)).mono ?_
   rintro e w31 ⟨rfl, hb31⟩
   have HS31 := hide (HS30.out.call hb31)
   have HRk31 := hide (HRk30.out.call hb31)
   clear HRk30
   clear hb31 HS30
   have p0 := rD HS31
   cases hq32 : opB (tokAt l i26 bad26) ⟨#[44]⟩
   case false =>
    clear hq32
    go_wp2_with fail
    refine namedWp fun W34 hW34 => ?_
    have HS34 := hide (St.onto hW34 HS31.out)
    have HRk34 := hide (Px.onto hW34 HRk31.out)
    clear HRk31
    clear hW34 HS31
    clear p0
    have HNn33 := hide (show Nx w W34 [w.heap.size, w.heap.size + 1, w.heap.size + 1 + 1, w3.heap.size, w24.heap.size, w24.heap.size + 1, w26.heap.size, w26.heap.size + 1] (Nd.of 36 ⟨#[]⟩ (ds ++ [d26])) (.agg #[.int .i64 36, .string ⟨#[]⟩, .slice y29 n29 c29]) from Px.node HRk34.out (by omega) (by decide))
    clear HRk34
    refine namedWp fun W35 hW35 => ?_
    have HS35 := hide (St.onto hW35 HS34.out)
    have HNn35 := hide (Nx.onto hW35 HNn33.out)
    clear HNn33
    clear hW35 HS34
    refine rgn HS35.out [4, 3] fun W36 hW36 => ?_
    have HS36 := hide (St.onto hW36 HS35.out.dr)
    have HNn36 := hide (Nx.onto hW36 HNn35.out.dr)
    clear HNn35
    clear hW36 HS35
    refine tK 0 (kS HS36.out [4, 3]) ?_
    refine tK 1 (kS HS36.out [4, 3]) ?_
    refine tK 3 (kS HS36.out [4, 3]) ?_
    refine rY 2 fun K hK => ?_
    go_simp
    refine (need_any ⟨#[125]⟩ (hi.below HS36.out.below) (by omega)).mono ?_
    rintro e w38 ⟨⟨i37, bad37, rfl, hr37⟩, hb38⟩
    have HS38 := hide (HS36.out.call hb38)
    have HNn38 := hide (HNn36.out.call hb38)
    clear HNn36
    clear hb38 HS36
    obtain ⟨hi37, hl37, hp37, hj37⟩ := hr37.out (by omega)
    clear hr37
    go_simp
    refine onK hK (kS HS38.out [4, 3]) ?_
    clear hK K
    refine rY 4 fun K hK => ?_
    have p1 := rG HS38 1
    go_simp
    refine onW hK (kS (HS38.out.st3 1 rfl _ _ _) [4, 3]) fun W39 hW39 => ?_
    clear hK K
    have HS39 := onS hW39 (HS38.out.st3 1 rfl _ _ _)
    have HNn39 := hide (Nx.onto hW39 (HNn38.out.st3 (by simp) _ _ _))
    clear HNn38
    clear hW39 HS38
    clear p1
    refine rY 5 fun K hK => ?_
    have p2 := rG HS39 2
    go_simp
    refine onW hK (kS (HS39.out.st3 2 rfl _ _ _) [4, 3]) fun W40 hW40 => ?_
    clear hK K
    have HS40 := onS hW40 (HS39.out.st3 2 rfl _ _ _)
    have HNn40 := hide (Nx.onto hW40 (HNn39.out.st3 (by simp) _ _ _))
    clear HNn39
    clear hW40 HS39
    clear p2
    refine wpAnyH_done (by kernel_rfl) ?_ _
    go_wp2_with fail
    refine namedPost fun W41 hW41 => ?_
    have HS41 := hide (St.onto hW41 HS40.out)
    have HNn41 := hide (Nx.onto hW41 HNn40.out)
    clear HNn40
    clear hW41 HS40
    exact ended_pn rfl rfl rfl (HS41.out.get 1 rfl) (HS41.out.get 2 rfl) ⟨⟨_, _, _, _, _, _, _, _, rfl, HNn41.out.out, ⟨by omega, by omega, by omega⟩, by rw [cntOf, cntL_app, cntL_one]; omega⟩, HS41.out.below⟩
   obtain ⟨rfl, hlt42⟩ := opB_in hq32
   clear hq32
   go_wp2_with fail
   exact ⟨⟨i26, _, _, _, _, (HS31.out.st3 0 rfl _ _ _).cut 4 rfl, (HRk31.out.st3 (by simp) _ _ _).fewer (by simp), by omega, by omega, by omega, by rw [cntL_app, cntL_one]; omega⟩, by rw [leftAt_of ((HS31.out.st3 0 rfl _ _ _).get 0 rfl), leftAt_of hMp]; omega⟩
  clear hq20
  go_wp2_with fail
  refine (op_any ⟨#[91]⟩ (hi.below HS19.out.below)).mono ?_
  rintro e w43 ⟨rfl, hb43⟩
  have HS43 := hide (HS19.out.call hb43)
  clear hb43 HS19
  clear p0
  have p0 := rD HS43
  cases hq44 : opB (tokAt l i bad) ⟨#[91]⟩
  case false =>
   clear hq44
   go_wp2_with fail
   refine namedWp fun W45 hW45 => ?_
   have HS45 := hide (St.onto hW45 HS43.out)
   clear hW45 HS43
   clear p0
   have HNn46 := hide (show Nx w W45 [w.heap.size, w.heap.size + 1, w.heap.size + 1 + 1, w3.heap.size] (Nd.mk 35 ⟨#[]⟩ .nil) (.agg #[.int .i64 35, .string ⟨#[]⟩, .slice none 0 0]) from Nx.leaf (by omega) (by decide))
   refine namedWp fun W47 hW47 => ?_
   have HS47 := hide (St.onto hW47 HS45.out)
   have HNn47 := hide (Nx.onto hW47 HNn46.out)
   clear HNn46
   clear hW47 HS45
   refine rgn HS47.out [0, 3] fun W48 hW48 => ?_
   have HS48 := hide (St.onto hW48 HS47.out.dr)
   have HNn48 := hide (Nx.onto hW48 HNn47.out.dr)
   clear HNn47
   clear hW48 HS47
   refine tK 0 (kS HS48.out [0, 3]) ?_
   refine tK 2 (kS HS48.out [0, 3]) ?_
   refine rY 1 fun K hK => ?_
   go_simp
   refine (wrong_any _ _ _ _ ⟨_, _, _, rfl⟩).mono ?_
   rintro e w50 ⟨rfl, hb50⟩
   have HS50 := hide (HS48.out.call hb50)
   have HNn50 := hide (HNn48.out.call hb50)
   clear HNn48
   clear hb50 HS48
   have p0 := rD HS50
   go_wp2_with fail
   have hwr49 := left_wrong l.length i bad
   go_simp
   refine onK hK (kS HS50.out [0, 3]) ?_
   clear hK K
   refine rY 3 fun K hK => ?_
   clear p0
   have p1 := rG HS50 1
   go_simp
   refine onW hK (kS (HS50.out.st3 1 rfl _ _ _) [0, 3]) fun W51 hW51 => ?_
   clear hK K
   have HS51 := onS hW51 (HS50.out.st3 1 rfl _ _ _)
   have HNn51 := hide (Nx.onto hW51 (HNn50.out.st3 (by simp) _ _ _))
   clear HNn50
   clear hW51 HS50
   clear p1
   refine rY 4 fun K hK => ?_
   have p2 := rG HS51 2
   go_simp
   refine onW hK (kS (HS51.out.st3 2 rfl _ _ _) [0, 3]) fun W52 hW52 => ?_
   clear hK K
   have HS52 := onS hW52 (HS51.out.st3 2 rfl _ _ _)
   have HNn52 := hide (Nx.onto hW52 (HNn51.out.st3 (by simp) _ _ _))
   clear HNn51
   clear hW52 HS51
   clear p2
   refine wpAnyH_done (by kernel_rfl) ?_ _
   go_wp2_with fail
   refine namedPost fun W53 hW53 => ?_
   have HS53 := hide (St.onto hW53 HS52.out)
   have HNn53 := hide (Nx.onto hW53 HNn52.out)
   clear HNn52
   clear hW53 HS52
   exact ended_pn rfl rfl rfl (HS53.out.get 1 rfl) (HS53.out.get 2 rfl) ⟨⟨_, _, _, _, _, _, _, _, rfl, HNn53.out.out, ⟨by omega, by omega, by omega⟩, by rw [cntLeaf]; omega⟩, HS53.out.below⟩
  obtain ⟨rfl, hlt54⟩ := opB_in hq44
  clear hq44
  go_wp2_with fail
  refine namedWp fun W55 hW55 => ?_
  have HS55 := hide (St.onto hW55 HS43.out)
  clear hW55 HS43
  clear p0
  go_loopw [] (fun wr => ∃ (x : Nat) (y : Option Addr) (q c : Nat) (ds : List Nd), St w wr [(w.heap.size, 86, #[.slice a l.length cap, .int .i64 x, .bool false]), (w.heap.size + 1, 86, #[.slice none 0 0, .int .i64 0, .bool false]), (w.heap.size + 1 + 1, 24, #[.int .i64 0, .string ⟨#[]⟩, .slice none 0 0]), (w3.heap.size, 24, #[.int .i64 35, .string ⟨#[]⟩, .slice y q c])] ∧ Hx w wr [w.heap.size, w.heap.size + 1, w.heap.size + 1 + 1, w3.heap.size] (.slice y q c) ds ∧ (i ≤ x ∧ x < l.length ∧ leftP l.length x false ≤ leftP l.length i false ∧ cntL ds + 8 * i ≤ 8 * x)) (fun wr => leftAt l.length w.heap.size wr)
  case atStart => exact ⟨i, none, 0, 0, [], HS55.out, Hx.nil _ _ _, by omega, by omega, by omega, by rw [cntL_nil]; omega⟩
  obtain ⟨x, y, q, c, ds, hS, hH, hx1, hx2, hx3, hx4⟩ := hrel
  have hMp := hS.get 0 rfl
  have HSr := hide hS
  have HRk := hide hH
  clear hS hH HS55
  have hcl := len_cntL ds
  have p0 := rD HSr
  go_wp2_with fail
  refine (next_in (n := l.length) ⟨_, _, _, rfl⟩ (by omega) hlen).mono ?_
  rintro e w57 ⟨⟨j56, rfl, hj56, hl56, hp56⟩, hb57⟩
  have HS57 := hide (HSr.out.call hb57)
  have HRk57 := hide (HRk.out.call hb57)
  clear HRk
  clear hb57 HSr
  clear p0
  have p0 := rD HS57
  go_wp2_with fail
  have lv58 := lV HS57
  refine named fun W58 hW58 => ?_
  have HS58 := onS hW58 HS57.out.va.va
  have HRk58 := hide (Px.onto hW58 ((HRk57.out.var (g := w57.heap.size) (by simp) _).var (g := w57.heap.size + 1) (by simp) _))
  clear HRk57
  clear hW58 HS57
  clear p0
  refine (HK.out.pattern (hi.below HS58.out.below) (by omega) (by omega)).mono ?_
  rintro e w59 ⟨⟨i59, bad59, d59, k59, s59, y59, m59, c59, rfl, hn59, ⟨hi59, hl59, hp59⟩, hc59⟩, hb59⟩
  have HS59 := hide (HS58.out.call hb59)
  have HRk59 := hide (Px.made HRk58.out hn59 hb59 HS58.out rfl)
  clear HRk58
  have HNk259 := hide (show Nx w w59 [w.heap.size, w.heap.size + 1, w.heap.size + 1 + 1, w3.heap.size, w57.heap.size, w57.heap.size + 1] _ _ from Nx.made hn59 HS58.out)
  clear hn59 hb59 HS58
  have p0 := rD HS59
  go_wp2_with (refine stopAt 52 ?_)
  have lv60 := lV HS59
  refine namedStop fun W60 hW60 => ?_
  have HS60 := onS hW60 (HS59.out.st3 4 rfl _ _ _).va.va
  have HNk260 := hide (Nx.onto hW60 (((HNk259.out.st3 (by simp) _ _ _).var (g := w59.heap.size) (by simp) _).var (g := w59.heap.size + 1) (by simp) _))
  have HRk60 := hide (Px.onto hW60 (((HRk59.out.st3 (by simp) _ _ _).var (g := w59.heap.size) (by simp) _).var (g := w59.heap.size + 1) (by simp) _))
  clear HNk259 HRk59
  clear hW60 HS59
  clear p0
  have p0 := rD HS60
  go_wp2_with (refine stopAt 53 ?_)
  refine namedStop fun W61 hW61 => ?_
  have HS61 := onS hW61 (HS60.out.st3 5 rfl _ _ _)
  have HNk261 := hide (Nx.onto hW61 (HNk260.out.st3 (by simp) _ _ _))
  have HRk61 := hide (Px.onto hW61 (HRk60.out.st3 (by simp) _ _ _))
  clear HNk260 HRk60
  clear hW61 HS60
  clear p0
  have p0 := rD HS61
  have lv62 := lV HS61
  have hSt62 : St w W61 [pe w.heap.size a l cap x false, pz (w.heap.size + 1), nz (w.heap.size + 1 + 1), ne w3.heap.size 35 ⟨#[]⟩ y q c, pe w57.heap.size a l cap i59 bad59, ne (w57.heap.size + 1) k59 s59 y59 m59 c59, pe w59.heap.size a l cap i59 bad59, ne (w59.heap.size + 1) k59 s59 y59 m59 c59] := HS61.out
  have hPx62 : Px w W61 [w.heap.size, w.heap.size + 1, w.heap.size + 1 + 1, w3.heap.size, w57.heap.size, w57.heap.size + 1, w59.heap.size, w59.heap.size + 1] (.slice y q c) ds [d59] [.int .i64 k59, .string s59, .slice y59 m59 c59] := HRk61.out
  obtain ⟨v62, w62, hr62, hH62, hS62⟩ := hPx62.snoc hSt62 rfl (by simp only [List.length_cons, List.length_nil]; omega) (by simp)
  simp only [List.length_cons, List.length_nil, Nat.zero_add] at hr62
  obtain ⟨y62, n62, c62, rfl⟩ := hH62.form'
  clear hSt62 hPx62 HS61 HRk61 HNk261
  have HS62 := hide hS62
  have HRk62 := hide hH62
  clear hS62 hH62
  have rr0 := rD HS62
  go_wp2_with (at_builtin; refine wpList_append_run rfl _ _ (by rfl) (by rfl) (by rfl) (by rfl) hr62 ?_)
  clear hr62 p0
  refine named fun W63 hW63 => ?_
  have HS63 := onS hW63 (HS62.out.st 3 rfl 2 _)
  have HRk63 := hide (Px.onto hW63 (HRk62.out.st (by simp) _ _))
  clear HRk62
  clear hW63 HS62
  clear rr0
  refine (op_any ⟨#[44]⟩ (hi.below HS63.out.below)).mono ?_
  rintro e w64 ⟨rfl, hb64⟩
  have HS64 := hide (HS63.out.call hb64)
  have HRk64 := hide (HRk63.out.call hb64)
  clear HRk63
  clear hb64 HS63
  have p0 := rD HS64
  cases hq65 : opB (tokAt l i59 bad59) ⟨#[44]⟩
  case false =>
   clear hq65
   go_wp2_with fail
   refine namedWp fun W67 hW67 => ?_
   have HS67 := hide (St.onto hW67 HS64.out)
   have HRk67 := hide (Px.onto hW67 HRk64.out)
   clear HRk64
   clear hW67 HS64
   clear p0
   have HNn66 := hide (show Nx w W67 [w.heap.size, w.heap.size + 1, w.heap.size + 1 + 1, w3.heap.size, w57.heap.size, w57.heap.size + 1, w59.heap.size, w59.heap.size + 1] (Nd.of 35 ⟨#[]⟩ (ds ++ [d59])) (.agg #[.int .i64 35, .string ⟨#[]⟩, .slice y62 n62 c62]) from Px.node HRk67.out (by omega) (by decide))
   clear HRk67
   refine namedWp fun W68 hW68 => ?_
   have HS68 := hide (St.onto hW68 HS67.out)
   have HNn68 := hide (Nx.onto hW68 HNn66.out)
   clear HNn66
   clear hW68 HS67
   refine rgn HS68.out [4, 3] fun W69 hW69 => ?_
   have HS69 := hide (St.onto hW69 HS68.out.dr)
   have HNn69 := hide (Nx.onto hW69 HNn68.out.dr)
   clear HNn68
   clear hW69 HS68
   refine tK 0 (kS HS69.out [4, 3]) ?_
   refine tK 1 (kS HS69.out [4, 3]) ?_
   refine tK 3 (kS HS69.out [4, 3]) ?_
   refine rY 2 fun K hK => ?_
   go_simp
   refine (need_any ⟨#[93]⟩ (hi.below HS69.out.below) (by omega)).mono ?_
   rintro e w71 ⟨⟨i70, bad70, rfl, hr70⟩, hb71⟩
   have HS71 := hide (HS69.out.call hb71)
   have HNn71 := hide (HNn69.out.call hb71)
   clear HNn69
   clear hb71 HS69
   obtain ⟨hi70, hl70, hp70, hj70⟩ := hr70.out (by omega)
   clear hr70
   go_simp
   refine onK hK (kS HS71.out [4, 3]) ?_
   clear hK K
   refine rY 4 fun K hK => ?_
   have p1 := rG HS71 1
   go_simp
   refine onW hK (kS (HS71.out.st3 1 rfl _ _ _) [4, 3]) fun W72 hW72 => ?_
   clear hK K
   have HS72 := onS hW72 (HS71.out.st3 1 rfl _ _ _)
   have HNn72 := hide (Nx.onto hW72 (HNn71.out.st3 (by simp) _ _ _))
   clear HNn71
   clear hW72 HS71
   clear p1
   refine rY 5 fun K hK => ?_
   have p2 := rG HS72 2
   go_simp
   refine onW hK (kS (HS72.out.st3 2 rfl _ _ _) [4, 3]) fun W73 hW73 => ?_
   clear hK K
   have HS73 := onS hW73 (HS72.out.st3 2 rfl _ _ _)
   have HNn73 := hide (Nx.onto hW73 (HNn72.out.st3 (by simp) _ _ _))
   clear HNn72
   clear hW73 HS72
   clear p2
   refine wpAnyH_done (by kernel_rfl) ?_ _
   go_wp2_with fail
   refine namedPost fun W74 hW74 => ?_
   have HS74 := hide (St.onto hW74 HS73.out)
   have HNn74 := hide (Nx.onto hW74 HNn73.out)
   clear HNn73
   clear hW74 HS73
   exact ended_pn rfl rfl rfl (HS74.out.get 1 rfl) (HS74.out.get 2 rfl) ⟨⟨_, _, _, _, _, _, _, _, rfl, HNn74.out.out, ⟨by omega, by omega, by omega⟩, by rw [cntOf, cntL_app, cntL_one]; omega⟩, HS74.out.below⟩
  obtain ⟨rfl, hlt75⟩ := opB_in hq65
  clear hq65
  go_wp2_with fail
  exact ⟨⟨i59, _, _, _, _, (HS64.out.st3 0 rfl _ _ _).cut 4 rfl, (HRk64.out.st3 (by simp) _ _ _).fewer (by simp), by omega, by omega, by omega, by rw [cntL_app, cntL_one]; omega⟩, by rw [leftAt_of ((HS64.out.st3 0 rfl _ _ _).get 0 rfl), leftAt_of hMp]; omega⟩
end Go.Proofs.YtacgmmpdichlmaaGreat
