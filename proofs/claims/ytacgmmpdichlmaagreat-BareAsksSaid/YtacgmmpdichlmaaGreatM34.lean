/-
  The reference's program: all. Its condition: the parser's items lie in memory.
-/
import Derived.Test.YtacgmmpdichlmaaGreatM31
import Derived.Test.YtacgmmpdichlmaaGreatM24
namespace Go.Proofs.YtacgmmpdichlmaaGreat
open Go.RowKit
attribute [local go_sem ↓] Go.wp_at_zero Go.wp_at_succ

theorem left_bring {n x j : Nat} {b : Bool} (h : x < j) (hx : x < n) : leftP n j b < leftP n x false := by
  cases b with
  | true => rw [left_true, left_false]; omega
  | false => rw [left_false, left_false]; omega
set_option maxRecDepth 4000 in
set_option maxHeartbeats 4000000 in
theorem program_any {l : List Tk} {a : Option Addr} {cap : Nat} {i : Nat} {bad : Bool} {w : World} (hi : Its w a l) (hat : i ≤ l.length) : Calls Tryz.prog 58 #[.agg #[.slice a l.length cap, .int .i64 i, .bool bad]] w (PN l a cap w i bad 3) := by
  have HK := hide (kn_all l a cap (leftP l.length i bad + 1))
  have hlen := hi.2.1
  go_enter Tryz.func58, Tryz.ntmps58
  go_wp2_with fail
  refine namedWp fun W1 hW1 => ?_
  have HS1 := onS hW1 (St.nil w).va.va.va.va
  clear hW1
  go_loopw [] (fun wr => ∃ (x : Nat) (b : Bool) (y : Option Addr) (q c : Nat) (ds : List Nd), St w wr [(w.heap.size, 86, #[.slice a l.length cap, .int .i64 x, .bool b]), (w.heap.size + 1, 86, #[.slice none 0 0, .int .i64 0, .bool false]), (w.heap.size + 1 + 1, 24, #[.int .i64 0, .string ⟨#[]⟩, .slice none 0 0]), (w.heap.size + 1 + 1 + 1, 24, #[.int .i64 34, .string ⟨#[]⟩, .slice y q c])] ∧ Hx w wr [w.heap.size, w.heap.size + 1, w.heap.size + 1 + 1, w.heap.size + 1 + 1 + 1] (.slice y q c) ds ∧ (i ≤ x ∧ x ≤ l.length ∧ leftP l.length x b ≤ leftP l.length i bad ∧ cntL ds + 8 * i ≤ 8 * x)) (fun wr => leftAt l.length w.heap.size wr)
  case atStart => exact ⟨i, bad, none, 0, 0, [], HS1.out, Hx.nil _ _ _, by omega, by omega, by omega, by rw [cntL_nil]; omega⟩
  obtain ⟨x, b, y, q, c, ds, hS, hH, hx1, hx2, hx3, hx4⟩ := hrel
  have hMp := hS.get 0 rfl
  have HSr := hide hS
  have HRk := hide hH
  clear hS hH HS1
  have hcl := len_cntL ds
  have p0 := rD HSr
  go_wp2_with fail
  refine (isWord_any ⟨#[105, 109, 112, 111, 114, 116]⟩ (hi.below HSr.out.below)).mono ?_
  rintro e w2 ⟨rfl, hb2⟩
  have HS2 := hide (HSr.out.call hb2)
  have HRk2 := hide (HRk.out.call hb2)
  clear HRk
  clear hb2 HSr
  clear p0
  have p0 := rD HS2
  cases hq3 : wordB (tokAt l x b) ⟨#[105, 109, 112, 111, 114, 116]⟩
  case true =>
   obtain ⟨rfl, hlt4⟩ := wordB_in hq3
   clear hq3
   go_wp2_with fail
   refine (bring_k HK.out (hi.below HS2.out.below) (by omega) (by omega)).mono ?_
   rintro e w5 ⟨⟨i5, bad5, d5, k5, s5, y5, m5, c5, rfl, hn5, ⟨hi5, hl5, hp5⟩, hc5⟩, hb5⟩
   have HS5 := hide (HS2.out.call hb5)
   have HRk5 := hide (Px.made HRk2.out hn5 hb5 HS2.out rfl)
   clear HRk2
   have HNn15 := hide (show Nx w w5 [w.heap.size, w.heap.size + 1, w.heap.size + 1 + 1, w.heap.size + 1 + 1 + 1] _ _ from Nx.made hn5 HS2.out)
   clear hn5 hb5 HS2
   clear p0
   have p0 := rD HS5
   have hcp5 := count_pos d5
   have hlb5 := left_bring (n := l.length) (b := bad5) (show x < i5 by omega) (by omega)
   go_wp2_with (refine stopAt 25 ?_)
   have lv6 := lV HS5
   refine namedStop fun W6 hW6 => ?_
   have HS6 := onS hW6 (HS5.out.st3 0 rfl _ _ _).va.va
   have HNn16 := hide (Nx.onto hW6 (((HNn15.out.st3 (by simp) _ _ _).var (g := w5.heap.size) (by simp) _).var (g := w5.heap.size + 1) (by simp) _))
   have HRk6 := hide (Px.onto hW6 (((HRk5.out.st3 (by simp) _ _ _).var (g := w5.heap.size) (by simp) _).var (g := w5.heap.size + 1) (by simp) _))
   clear HNn15 HRk5
   clear hW6 HS5
   clear p0
   have p0 := rD HS6
   have lv7 := lV HS6
   have hSt7 : St w W6 [pe w.heap.size a l cap i5 bad5, pz (w.heap.size + 1), nz (w.heap.size + 1 + 1), ne (w.heap.size + 1 + 1 + 1) 34 ⟨#[]⟩ y q c, pe w5.heap.size a l cap i5 bad5, ne (w5.heap.size + 1) k5 s5 y5 m5 c5] := HS6.out
   have hPx7 : Px w W6 [w.heap.size, w.heap.size + 1, w.heap.size + 1 + 1, w.heap.size + 1 + 1 + 1, w5.heap.size, w5.heap.size + 1] (.slice y q c) ds [d5] [.int .i64 k5, .string s5, .slice y5 m5 c5] := HRk6.out
   obtain ⟨v7, w7, hr7, hH7, hS7⟩ := hPx7.snoc hSt7 rfl (by simp only [List.length_cons, List.length_nil]; omega) (by simp)
   simp only [List.length_cons, List.length_nil, Nat.zero_add] at hr7
   obtain ⟨y7, n7, c7, rfl⟩ := hH7.form'
   clear hSt7 hPx7 HS6 HRk6 HNn16
   have HS7 := hide hS7
   have HRk7 := hide hH7
   clear hS7 hH7
   have rr0 := rD HS7
   go_wp2_with (at_builtin; refine wpList_append_run rfl _ _ (by rfl) (by rfl) (by rfl) (by rfl) hr7 ?_)
   clear hr7 p0
   exact ⟨⟨i5, bad5, _, _, _, _, (HS7.out.st 3 rfl 2 _).cut 4 rfl, (HRk7.out.st (by simp) _ _).fewer (by simp), by omega, by omega, by omega, by rw [cntL_app, cntL_one]; omega⟩, by rw [leftAt_of ((HS7.out.st 3 rfl 2 _).get 0 rfl), leftAt_of hMp]; omega⟩
  clear hq3
  go_wp2_with fail
  refine (isWord_any ⟨#[105, 110, 99, 108, 117, 100, 101]⟩ (hi.below HS2.out.below)).mono ?_
  rintro e w8 ⟨rfl, hb8⟩
  have HS8 := hide (HS2.out.call hb8)
  have HRk8 := hide (HRk2.out.call hb8)
  clear HRk2
  clear hb8 HS2
  clear p0
  have p0 := rD HS8
  cases hq9 : wordB (tokAt l x b) ⟨#[105, 110, 99, 108, 117, 100, 101]⟩
  case true =>
   obtain ⟨rfl, hlt10⟩ := wordB_in hq9
   clear hq9
   go_wp2_with fail
   refine (bring_k HK.out (hi.below HS8.out.below) (by omega) (by omega)).mono ?_
   rintro e w11 ⟨⟨i11, bad11, d11, k11, s11, y11, m11, c11, rfl, hn11, ⟨hi11, hl11, hp11⟩, hc11⟩, hb11⟩
   have HS11 := hide (HS8.out.call hb11)
   have HRk11 := hide (Px.made HRk8.out hn11 hb11 HS8.out rfl)
   clear HRk8
   have HNn111 := hide (show Nx w w11 [w.heap.size, w.heap.size + 1, w.heap.size + 1 + 1, w.heap.size + 1 + 1 + 1] _ _ from Nx.made hn11 HS8.out)
   clear hn11 hb11 HS8
   clear p0
   have p0 := rD HS11
   have hcp11 := count_pos d11
   have hlb11 := left_bring (n := l.length) (b := bad11) (show x < i11 by omega) (by omega)
   go_wp2_with (refine stopAt 25 ?_)
   have lv12 := lV HS11
   refine namedStop fun W12 hW12 => ?_
   have HS12 := onS hW12 (HS11.out.st3 0 rfl _ _ _).va.va
   have HNn112 := hide (Nx.onto hW12 (((HNn111.out.st3 (by simp) _ _ _).var (g := w11.heap.size) (by simp) _).var (g := w11.heap.size + 1) (by simp) _))
   have HRk12 := hide (Px.onto hW12 (((HRk11.out.st3 (by simp) _ _ _).var (g := w11.heap.size) (by simp) _).var (g := w11.heap.size + 1) (by simp) _))
   clear HNn111 HRk11
   clear hW12 HS11
   clear p0
   have p0 := rD HS12
   have lv13 := lV HS12
   have hSt13 : St w W12 [pe w.heap.size a l cap i11 bad11, pz (w.heap.size + 1), nz (w.heap.size + 1 + 1), ne (w.heap.size + 1 + 1 + 1) 34 ⟨#[]⟩ y q c, pe w11.heap.size a l cap i11 bad11, ne (w11.heap.size + 1) k11 s11 y11 m11 c11] := HS12.out
   have hPx13 : Px w W12 [w.heap.size, w.heap.size + 1, w.heap.size + 1 + 1, w.heap.size + 1 + 1 + 1, w11.heap.size, w11.heap.size + 1] (.slice y q c) ds [d11] [.int .i64 k11, .string s11, .slice y11 m11 c11] := HRk12.out
   obtain ⟨v13, w13, hr13, hH13, hS13⟩ := hPx13.snoc hSt13 rfl (by simp only [List.length_cons, List.length_nil]; omega) (by simp)
   simp only [List.length_cons, List.length_nil, Nat.zero_add] at hr13
   obtain ⟨y13, n13, c13, rfl⟩ := hH13.form'
   clear hSt13 hPx13 HS12 HRk12 HNn112
   have HS13 := hide hS13
   have HRk13 := hide hH13
   clear hS13 hH13
   have rr0 := rD HS13
   go_wp2_with (at_builtin; refine wpList_append_run rfl _ _ (by rfl) (by rfl) (by rfl) (by rfl) hr13 ?_)
   clear hr13 p0
   exact ⟨⟨i11, bad11, _, _, _, _, (HS13.out.st 3 rfl 2 _).cut 4 rfl, (HRk13.out.st (by simp) _ _).fewer (by simp), by omega, by omega, by omega, by rw [cntL_app, cntL_one]; omega⟩, by rw [leftAt_of ((HS13.out.st 3 rfl 2 _).get 0 rfl), leftAt_of hMp]; omega⟩
  clear hq9
  by_cases hq0 : q = 0
  ·
   have hqb : ((q : Int) == 0) = true := by simp; omega
   subst hq0
   clear HRk8
   go_wp2_with fail
   have lv14 := lV HS8
   refine named fun W14 hW14 => ?_
   have HS14 := onS hW14 HS8.out.va
   clear hW14 HS8
   clear p0
   refine (isWord_any ⟨#[100, 101, 102]⟩ (hi.below HS14.out.below)).mono ?_
   rintro e w15 ⟨rfl, hb15⟩
   have HS15 := hide (HS14.out.call hb15)
   clear hb15 HS14
   have p0 := rD HS15
   cases hq16 : wordB (tokAt l x b) ⟨#[100, 101, 102]⟩
   case true =>
    obtain ⟨rfl, hlt17⟩ := wordB_in hq16
    clear hq16
    go_wp2_with fail
    refine (HK.out.def_ true (hi.below HS15.out.below) (by omega) (by omega)).mono ?_
    rintro e w18 ⟨⟨i18, bad18, d18, k18, s18, y18, m18, c18, rfl, hn18, ⟨hi18, hl18, hp18⟩, hc18⟩, hb18⟩
    have HS18 := hide (HS15.out.call hb18)
    have HNn218 := hide (show Nx w w18 [w.heap.size, w.heap.size + 1, w.heap.size + 1 + 1, w.heap.size + 1 + 1 + 1, w8.heap.size] _ _ from Nx.made hn18 HS15.out)
    clear hn18 hb18 HS15
    clear p0
    have p0 := rD HS18
    go_wp2_with (refine stopAt 56 ?_)
    have lv19 := lV HS18
    refine namedStop fun W19 hW19 => ?_
    have HS19 := onS hW19 (HS18.out.st3 0 rfl _ _ _).va.va
    have HNn219 := hide (Nx.onto hW19 (((HNn218.out.st3 (by simp) _ _ _).var (g := w18.heap.size) (by simp) _).var (g := w18.heap.size + 1) (by simp) _))
    clear HNn218
    clear hW19 HS18
    clear p0
    have p0 := rD HS19
    go_wp2_with (refine stopAt 64 ?_)
    refine namedStop fun W20 hW20 => ?_
    have HS20 := onS hW20 (HS19.out.st3 4 rfl _ _ _)
    have HNn20 := hide (Nx.onto hW20 (HNn219.out.st3 (by simp) _ _ _))
    clear HNn219
    clear hW20 HS19
    clear p0
    cases bad18
    case true =>
     have p0 := rD HS20
     go_wp2_with fail
     clear p0
     refine namedWp fun W21 hW21 => ?_
     have HS21 := hide (St.onto hW21 HS20.out)
     have HNn21 := hide (Nx.onto hW21 HNn20.out)
     clear HNn20
     clear hW21 HS20
     refine rgn HS21.out [0, 4] fun W22 hW22 => ?_
     have HS22 := hide (St.onto hW22 HS21.out.dr)
     have HNn22 := hide (Nx.onto hW22 HNn21.out.dr)
     clear HNn21
     clear hW22 HS21
     refine tK 0 (kS HS22.out [0, 4]) ?_
     refine tK 1 (kS HS22.out [0, 4]) ?_
     refine rY 2 fun K hK => ?_
     have p1 := rG HS22 1
     go_simp
     refine onW hK (kS (HS22.out.st3 1 rfl _ _ _) [0, 4]) fun W23 hW23 => ?_
     clear hK K
     have HS23 := onS hW23 (HS22.out.st3 1 rfl _ _ _)
     have HNn23 := hide (Nx.onto hW23 (HNn22.out.st3 (by simp) _ _ _))
     clear HNn22
     clear hW23 HS22
     clear p1
     refine rY 3 fun K hK => ?_
     have p2 := rG HS23 2
     go_simp
     refine onW hK (kS (HS23.out.st3 2 rfl _ _ _) [0, 4]) fun W24 hW24 => ?_
     clear hK K
     have HS24 := onS hW24 (HS23.out.st3 2 rfl _ _ _)
     have HNn24 := hide (Nx.onto hW24 (HNn23.out.st3 (by simp) _ _ _))
     clear HNn23
     clear hW24 HS23
     clear p2
     refine wpAnyH_done (by kernel_rfl) ?_ _
     go_wp2_with fail
     refine namedPost fun W25 hW25 => ?_
     have HS25 := hide (St.onto hW25 HS24.out)
     have HNn25 := hide (Nx.onto hW25 HNn24.out)
     clear HNn24
     clear hW25 HS24
     exact ended_pn rfl rfl rfl (HS25.out.get 1 rfl) (HS25.out.get 2 rfl) ⟨⟨_, _, _, _, _, _, _, _, rfl, HNn25.out.out, ⟨by omega, by omega, by omega⟩, by omega⟩, HS25.out.below⟩
    have p0 := rD HS20
    by_cases hend : i18 < l.length
    ·
     go_wp2_with fail
     refine (wrong_any _ _ _ _ ⟨_, _, _, rfl⟩).mono ?_
     rintro e w27 ⟨rfl, hb27⟩
     have HS27 := hide (HS20.out.call hb27)
     have HNn27 := hide (HNn20.out.call hb27)
     clear HNn20
     clear hb27 HS20
     clear p0
     have p0 := rD HS27
     have hwr26 := left_wrong l.length i18 false
     go_wp2_with fail
     clear p0
     refine namedWp fun W28 hW28 => ?_
     have HS28 := onS hW28 (HS27.out.st3 0 rfl _ _ _)
     have HNn28 := hide (Nx.onto hW28 (HNn27.out.st3 (by simp) _ _ _))
     clear HNn27
     clear hW28 HS27
     refine rgn HS28.out [0, 4] fun W29 hW29 => ?_
     have HS29 := hide (St.onto hW29 HS28.out.dr)
     have HNn29 := hide (Nx.onto hW29 HNn28.out.dr)
     clear HNn28
     clear hW29 HS28
     refine tK 0 (kS HS29.out [0, 4]) ?_
     refine tK 1 (kS HS29.out [0, 4]) ?_
     refine rY 2 fun K hK => ?_
     have p1 := rG HS29 1
     go_simp
     refine onW hK (kS (HS29.out.st3 1 rfl _ _ _) [0, 4]) fun W30 hW30 => ?_
     clear hK K
     have HS30 := onS hW30 (HS29.out.st3 1 rfl _ _ _)
     have HNn30 := hide (Nx.onto hW30 (HNn29.out.st3 (by simp) _ _ _))
     clear HNn29
     clear hW30 HS29
     clear p1
     refine rY 3 fun K hK => ?_
     have p2 := rG HS30 2
     go_simp
     refine onW hK (kS (HS30.out.st3 2 rfl _ _ _) [0, 4]) fun W31 hW31 => ?_
     clear hK K
     have HS31 := onS hW31 (HS30.out.st3 2 rfl _ _ _)
     have HNn31 := hide (Nx.onto hW31 (HNn30.out.st3 (by simp) _ _ _))
     clear HNn30
     clear hW31 HS30
     clear p2
     refine wpAnyH_done (by kernel_rfl) ?_ _
     go_wp2_with fail
     refine namedPost fun W32 hW32 => ?_
     have HS32 := hide (St.onto hW32 HS31.out)
     have HNn32 := hide (Nx.onto hW32 HNn31.out)
     clear HNn31
     clear hW32 HS31
     exact ended_pn rfl rfl rfl (HS32.out.get 1 rfl) (HS32.out.get 2 rfl) ⟨⟨_, _, _, _, _, _, _, _, rfl, HNn32.out.out, ⟨by omega, by omega, by omega⟩, by omega⟩, HS32.out.below⟩
    go_wp2_with fail
    clear p0
    refine namedWp fun W33 hW33 => ?_
    have HS33 := hide (St.onto hW33 HS20.out)
    have HNn33 := hide (Nx.onto hW33 HNn20.out)
    clear HNn20
    clear hW33 HS20
    refine rgn HS33.out [0, 4] fun W34 hW34 => ?_
    have HS34 := hide (St.onto hW34 HS33.out.dr)
    have HNn34 := hide (Nx.onto hW34 HNn33.out.dr)
    clear HNn33
    clear hW34 HS33
    refine tK 0 (kS HS34.out [0, 4]) ?_
    refine tK 1 (kS HS34.out [0, 4]) ?_
    refine rY 2 fun K hK => ?_
    have p1 := rG HS34 1
    go_simp
    refine onW hK (kS (HS34.out.st3 1 rfl _ _ _) [0, 4]) fun W35 hW35 => ?_
    clear hK K
    have HS35 := onS hW35 (HS34.out.st3 1 rfl _ _ _)
    have HNn35 := hide (Nx.onto hW35 (HNn34.out.st3 (by simp) _ _ _))
    clear HNn34
    clear hW35 HS34
    clear p1
    refine rY 3 fun K hK => ?_
    have p2 := rG HS35 2
    go_simp
    refine onW hK (kS (HS35.out.st3 2 rfl _ _ _) [0, 4]) fun W36 hW36 => ?_
    clear hK K
    have HS36 := onS hW36 (HS35.out.st3 2 rfl _ _ _)
    have HNn36 := hide (Nx.onto hW36 (HNn35.out.st3 (by simp) _ _ _))
    clear HNn35
    clear hW36 HS35
    clear p2
    refine wpAnyH_done (by kernel_rfl) ?_ _
    go_wp2_with fail
    refine namedPost fun W37 hW37 => ?_
    have HS37 := hide (St.onto hW37 HS36.out)
    have HNn37 := hide (Nx.onto hW37 HNn36.out)
    clear HNn36
    clear hW37 HS36
    exact ended_pn rfl rfl rfl (HS37.out.get 1 rfl) (HS37.out.get 2 rfl) ⟨⟨_, _, _, _, _, _, _, _, rfl, HNn37.out.out, ⟨by omega, by omega, by omega⟩, by omega⟩, HS37.out.below⟩
   clear hq16
   go_wp2_with fail
   refine (HK.out.pipe (hi.below HS15.out.below) (by omega) (by omega)).mono ?_
   rintro e w38 ⟨⟨i38, bad38, d38, k38, s38, y38, m38, c38, rfl, hn38, ⟨hi38, hl38, hp38⟩, hc38⟩, hb38⟩
   have HS38 := hide (HS15.out.call hb38)
   have HNn238 := hide (show Nx w w38 [w.heap.size, w.heap.size + 1, w.heap.size + 1 + 1, w.heap.size + 1 + 1 + 1, w8.heap.size] _ _ from Nx.made hn38 HS15.out)
   clear hn38 hb38 HS15
   clear p0
   have p0 := rD HS38
   go_wp2_with (refine stopAt 63 ?_)
   have lv39 := lV HS38
   refine namedStop fun W39 hW39 => ?_
   have HS39 := onS hW39 (HS38.out.st3 0 rfl _ _ _).va.va
   have HNn239 := hide (Nx.onto hW39 (((HNn238.out.st3 (by simp) _ _ _).var (g := w38.heap.size) (by simp) _).var (g := w38.heap.size + 1) (by simp) _))
   clear HNn238
   clear hW39 HS38
   clear p0
   have p0 := rD HS39
   go_wp2_with (refine stopAt 64 ?_)
   refine namedStop fun W40 hW40 => ?_
   have HS40 := onS hW40 (HS39.out.st3 4 rfl _ _ _)
   have HNn40 := hide (Nx.onto hW40 (HNn239.out.st3 (by simp) _ _ _))
   clear HNn239
   clear hW40 HS39
   clear p0
   cases bad38
   case true =>
    have p0 := rD HS40
    go_wp2_with fail
    clear p0
    refine namedWp fun W41 hW41 => ?_
    have HS41 := hide (St.onto hW41 HS40.out)
    have HNn41 := hide (Nx.onto hW41 HNn40.out)
    clear HNn40
    clear hW41 HS40
    refine rgn HS41.out [0, 4] fun W42 hW42 => ?_
    have HS42 := hide (St.onto hW42 HS41.out.dr)
    have HNn42 := hide (Nx.onto hW42 HNn41.out.dr)
    clear HNn41
    clear hW42 HS41
    refine tK 0 (kS HS42.out [0, 4]) ?_
    refine tK 1 (kS HS42.out [0, 4]) ?_
    refine rY 2 fun K hK => ?_
    have p1 := rG HS42 1
    go_simp
    refine onW hK (kS (HS42.out.st3 1 rfl _ _ _) [0, 4]) fun W43 hW43 => ?_
    clear hK K
    have HS43 := onS hW43 (HS42.out.st3 1 rfl _ _ _)
    have HNn43 := hide (Nx.onto hW43 (HNn42.out.st3 (by simp) _ _ _))
    clear HNn42
    clear hW43 HS42
    clear p1
    refine rY 3 fun K hK => ?_
    have p2 := rG HS43 2
    go_simp
    refine onW hK (kS (HS43.out.st3 2 rfl _ _ _) [0, 4]) fun W44 hW44 => ?_
    clear hK K
    have HS44 := onS hW44 (HS43.out.st3 2 rfl _ _ _)
    have HNn44 := hide (Nx.onto hW44 (HNn43.out.st3 (by simp) _ _ _))
    clear HNn43
    clear hW44 HS43
    clear p2
    refine wpAnyH_done (by kernel_rfl) ?_ _
    go_wp2_with fail
    refine namedPost fun W45 hW45 => ?_
    have HS45 := hide (St.onto hW45 HS44.out)
    have HNn45 := hide (Nx.onto hW45 HNn44.out)
    clear HNn44
    clear hW45 HS44
    exact ended_pn rfl rfl rfl (HS45.out.get 1 rfl) (HS45.out.get 2 rfl) ⟨⟨_, _, _, _, _, _, _, _, rfl, HNn45.out.out, ⟨by omega, by omega, by omega⟩, by omega⟩, HS45.out.below⟩
   have p0 := rD HS40
   by_cases hend : i38 < l.length
   ·
    go_wp2_with fail
    refine (wrong_any _ _ _ _ ⟨_, _, _, rfl⟩).mono ?_
    rintro e w47 ⟨rfl, hb47⟩
    have HS47 := hide (HS40.out.call hb47)
    have HNn47 := hide (HNn40.out.call hb47)
    clear HNn40
    clear hb47 HS40
    clear p0
    have p0 := rD HS47
    have hwr46 := left_wrong l.length i38 false
    go_wp2_with fail
    clear p0
    refine namedWp fun W48 hW48 => ?_
    have HS48 := onS hW48 (HS47.out.st3 0 rfl _ _ _)
    have HNn48 := hide (Nx.onto hW48 (HNn47.out.st3 (by simp) _ _ _))
    clear HNn47
    clear hW48 HS47
    refine rgn HS48.out [0, 4] fun W49 hW49 => ?_
    have HS49 := hide (St.onto hW49 HS48.out.dr)
    have HNn49 := hide (Nx.onto hW49 HNn48.out.dr)
    clear HNn48
    clear hW49 HS48
    refine tK 0 (kS HS49.out [0, 4]) ?_
    refine tK 1 (kS HS49.out [0, 4]) ?_
    refine rY 2 fun K hK => ?_
    have p1 := rG HS49 1
    go_simp
    refine onW hK (kS (HS49.out.st3 1 rfl _ _ _) [0, 4]) fun W50 hW50 => ?_
    clear hK K
    have HS50 := onS hW50 (HS49.out.st3 1 rfl _ _ _)
    have HNn50 := hide (Nx.onto hW50 (HNn49.out.st3 (by simp) _ _ _))
    clear HNn49
    clear hW50 HS49
    clear p1
    refine rY 3 fun K hK => ?_
    have p2 := rG HS50 2
    go_simp
    refine onW hK (kS (HS50.out.st3 2 rfl _ _ _) [0, 4]) fun W51 hW51 => ?_
    clear hK K
    have HS51 := onS hW51 (HS50.out.st3 2 rfl _ _ _)
    have HNn51 := hide (Nx.onto hW51 (HNn50.out.st3 (by simp) _ _ _))
    clear HNn50
    clear hW51 HS50
    clear p2
    refine wpAnyH_done (by kernel_rfl) ?_ _
    go_wp2_with fail
    refine namedPost fun W52 hW52 => ?_
    have HS52 := hide (St.onto hW52 HS51.out)
    have HNn52 := hide (Nx.onto hW52 HNn51.out)
    clear HNn51
    clear hW52 HS51
    exact ended_pn rfl rfl rfl (HS52.out.get 1 rfl) (HS52.out.get 2 rfl) ⟨⟨_, _, _, _, _, _, _, _, rfl, HNn52.out.out, ⟨by omega, by omega, by omega⟩, by omega⟩, HS52.out.below⟩
   go_wp2_with fail
   clear p0
   refine namedWp fun W53 hW53 => ?_
   have HS53 := hide (St.onto hW53 HS40.out)
   have HNn53 := hide (Nx.onto hW53 HNn40.out)
   clear HNn40
   clear hW53 HS40
   refine rgn HS53.out [0, 4] fun W54 hW54 => ?_
   have HS54 := hide (St.onto hW54 HS53.out.dr)
   have HNn54 := hide (Nx.onto hW54 HNn53.out.dr)
   clear HNn53
   clear hW54 HS53
   refine tK 0 (kS HS54.out [0, 4]) ?_
   refine tK 1 (kS HS54.out [0, 4]) ?_
   refine rY 2 fun K hK => ?_
   have p1 := rG HS54 1
   go_simp
   refine onW hK (kS (HS54.out.st3 1 rfl _ _ _) [0, 4]) fun W55 hW55 => ?_
   clear hK K
   have HS55 := onS hW55 (HS54.out.st3 1 rfl _ _ _)
   have HNn55 := hide (Nx.onto hW55 (HNn54.out.st3 (by simp) _ _ _))
   clear HNn54
   clear hW55 HS54
   clear p1
   refine rY 3 fun K hK => ?_
   have p2 := rG HS55 2
   go_simp
   refine onW hK (kS (HS55.out.st3 2 rfl _ _ _) [0, 4]) fun W56 hW56 => ?_
   clear hK K
   have HS56 := onS hW56 (HS55.out.st3 2 rfl _ _ _)
   have HNn56 := hide (Nx.onto hW56 (HNn55.out.st3 (by simp) _ _ _))
   clear HNn55
   clear hW56 HS55
   clear p2
   refine wpAnyH_done (by kernel_rfl) ?_ _
   go_wp2_with fail
   refine namedPost fun W57 hW57 => ?_
   have HS57 := hide (St.onto hW57 HS56.out)
   have HNn57 := hide (Nx.onto hW57 HNn56.out)
   clear HNn56
   clear hW57 HS56
   exact ended_pn rfl rfl rfl (HS57.out.get 1 rfl) (HS57.out.get 2 rfl) ⟨⟨_, _, _, _, _, _, _, _, rfl, HNn57.out.out, ⟨by omega, by omega, by omega⟩, by omega⟩, HS57.out.below⟩
  have hqb : ((q : Int) == 0) = false := by simp; omega
  cases b
  case true =>
   go_wp2_with fail
   have lv58 := lV HS8
   refine named fun W58 hW58 => ?_
   have HS58 := onS hW58 HS8.out.va
   have HRk58 := hide (Px.onto hW58 (HRk8.out.var (g := w8.heap.size) (by simp) _))
   clear HRk8
   clear hW58 HS8
   clear p0
   refine (isWord_any ⟨#[100, 101, 102]⟩ (hi.below HS58.out.below)).mono ?_
   rintro e w59 ⟨rfl, hb59⟩
   have HS59 := hide (HS58.out.call hb59)
   have HRk59 := hide (HRk58.out.call hb59)
   clear HRk58
   clear hb59 HS58
   have p0 := rD HS59
   cases hq60 : wordB (tokAt l x true) ⟨#[100, 101, 102]⟩
   case true =>
    cases (wordB_in hq60).1
   clear hq60
   go_wp2_with fail
   refine (HK.out.pipe (hi.below HS59.out.below) (by omega) (by omega)).mono ?_
   rintro e w61 ⟨⟨i61, bad61, d61, k61, s61, y61, m61, c61, rfl, hn61, ⟨hi61, hl61, hp61⟩, hc61⟩, hb61⟩
   have HS61 := hide (HS59.out.call hb61)
   have HRk61 := hide (Px.made HRk59.out hn61 hb61 HS59.out rfl)
   clear HRk59
   have HNn261 := hide (show Nx w w61 [w.heap.size, w.heap.size + 1, w.heap.size + 1 + 1, w.heap.size + 1 + 1 + 1, w8.heap.size] _ _ from Nx.made hn61 HS59.out)
   clear hn61 hb61 HS59
   clear p0
   have p0 := rD HS61
   go_wp2_with (refine stopAt 63 ?_)
   have lv62 := lV HS61
   refine namedStop fun W62 hW62 => ?_
   have HS62 := onS hW62 (HS61.out.st3 0 rfl _ _ _).va.va
   have HNn262 := hide (Nx.onto hW62 (((HNn261.out.st3 (by simp) _ _ _).var (g := w61.heap.size) (by simp) _).var (g := w61.heap.size + 1) (by simp) _))
   have HRk62 := hide (Px.onto hW62 (((HRk61.out.st3 (by simp) _ _ _).var (g := w61.heap.size) (by simp) _).var (g := w61.heap.size + 1) (by simp) _))
   clear HNn261 HRk61
   clear hW62 HS61
   clear p0
   have p0 := rD HS62
   go_wp2_with (refine stopAt 64 ?_)
   refine namedStop fun W63 hW63 => ?_
   have HS63 := onS hW63 (HS62.out.st3 4 rfl _ _ _)
   have HNn63 := hide (Nx.onto hW63 (HNn262.out.st3 (by simp) _ _ _))
   have HRk63 := hide (Px.onto hW63 (HRk62.out.st3 (by simp) _ _ _))
   clear HNn262 HRk62
   clear hW63 HS62
   clear p0
   cases bad61
   case true =>
    have p0 := rD HS63
    go_wp2_with (refine stopAt 83 ?_)
    refine namedStop fun W64 hW64 => ?_
    have HS64 := hide (St.onto hW64 HS63.out)
    have HNn64 := hide (Nx.onto hW64 HNn63.out)
    have HRk64 := hide (Px.onto hW64 HRk63.out)
    clear HNn63 HRk63
    clear hW64 HS63
    clear p0
    have p0 := rD HS64
    have lv65 := lV HS64
    have hSt65 : St w W64 [pe w.heap.size a l cap i61 true, pz (w.heap.size + 1), nz (w.heap.size + 1 + 1), ne (w.heap.size + 1 + 1 + 1) 34 ⟨#[]⟩ y q c, ne w8.heap.size k61 s61 y61 m61 c61, pe w61.heap.size a l cap i61 true, ne (w61.heap.size + 1) k61 s61 y61 m61 c61] := HS64.out
    have hPx65 : Px w W64 [w.heap.size, w.heap.size + 1, w.heap.size + 1 + 1, w.heap.size + 1 + 1 + 1, w8.heap.size, w61.heap.size, w61.heap.size + 1] (.slice y q c) ds [d61] [.int .i64 k61, .string s61, .slice y61 m61 c61] := HRk64.out
    obtain ⟨v65, w65, hr65, hH65, hS65⟩ := hPx65.snoc hSt65 rfl (by simp only [List.length_cons, List.length_nil]; omega) (by simp)
    simp only [List.length_cons, List.length_nil, Nat.zero_add] at hr65
    obtain ⟨y65, n65, c65, rfl⟩ := hH65.form'
    clear hSt65 hPx65 HS64 HRk64 HNn64
    have HS65 := hide hS65
    have HRk65 := hide hH65
    clear hS65 hH65
    have rr0 := rD HS65
    go_wp2_with (at_builtin; refine wpList_append_run rfl _ _ (by rfl) (by rfl) (by rfl) (by rfl) hr65 ?_)
    clear hr65 p0
    refine namedWp fun W67 hW67 => ?_
    have HS67 := onS hW67 (HS65.out.st 3 rfl 2 _)
    have HRk67 := hide (Px.onto hW67 (HRk65.out.st (by simp) _ _))
    clear HRk65
    clear hW67 HS65
    clear rr0
    have HNm66 := hide (show Nx w W67 [w.heap.size, w.heap.size + 1, w.heap.size + 1 + 1, w.heap.size + 1 + 1 + 1, w8.heap.size, w61.heap.size, w61.heap.size + 1] (Nd.of 34 ⟨#[]⟩ (ds ++ [d61])) (.agg #[.int .i64 34, .string ⟨#[]⟩, .slice y65 n65 c65]) from Px.node HRk67.out (by omega) (by decide))
    clear HRk67
    refine namedWp fun W68 hW68 => ?_
    have HS68 := hide (St.onto hW68 HS67.out)
    have HNm68 := hide (Nx.onto hW68 HNm66.out)
    clear HNm66
    clear hW68 HS67
    refine rgn HS68.out [0, 3] fun W69 hW69 => ?_
    have HS69 := hide (St.onto hW69 HS68.out.dr)
    have HNm69 := hide (Nx.onto hW69 HNm68.out.dr)
    clear HNm68
    clear hW69 HS68
    refine tK 0 (kS HS69.out [0, 3]) ?_
    refine tK 1 (kS HS69.out [0, 3]) ?_
    refine rY 2 fun K hK => ?_
    have p1 := rG HS69 1
    go_simp
    refine onW hK (kS (HS69.out.st3 1 rfl _ _ _) [0, 3]) fun W70 hW70 => ?_
    clear hK K
    have HS70 := onS hW70 (HS69.out.st3 1 rfl _ _ _)
    have HNm70 := hide (Nx.onto hW70 (HNm69.out.st3 (by simp) _ _ _))
    clear HNm69
    clear hW70 HS69
    clear p1
    refine rY 3 fun K hK => ?_
    have p2 := rG HS70 2
    go_simp
    refine onW hK (kS (HS70.out.st3 2 rfl _ _ _) [0, 3]) fun W71 hW71 => ?_
    clear hK K
    have HS71 := onS hW71 (HS70.out.st3 2 rfl _ _ _)
    have HNm71 := hide (Nx.onto hW71 (HNm70.out.st3 (by simp) _ _ _))
    clear HNm70
    clear hW71 HS70
    clear p2
    refine wpAnyH_done (by kernel_rfl) ?_ _
    go_wp2_with fail
    refine namedPost fun W72 hW72 => ?_
    have HS72 := hide (St.onto hW72 HS71.out)
    have HNm72 := hide (Nx.onto hW72 HNm71.out)
    clear HNm71
    clear hW72 HS71
    exact ended_pn rfl rfl rfl (HS72.out.get 1 rfl) (HS72.out.get 2 rfl) ⟨⟨_, _, _, _, _, _, _, _, rfl, HNm72.out.out, ⟨by omega, by omega, by omega⟩, by rw [cntOf, cntL_app, cntL_one]; omega⟩, HS72.out.below⟩
   have p0 := rD HS63
   by_cases hend : i61 < l.length
   ·
    go_wp2_with fail
    refine (wrong_any _ _ _ _ ⟨_, _, _, rfl⟩).mono ?_
    rintro e w74 ⟨rfl, hb74⟩
    have HS74 := hide (HS63.out.call hb74)
    have HNn74 := hide (HNn63.out.call hb74)
    clear HNn63
    have HRk74 := hide (HRk63.out.call hb74)
    clear HRk63
    clear hb74 HS63
    clear p0
    have p0 := rD HS74
    have hwr73 := left_wrong l.length i61 false
    go_wp2_with (refine stopAt 83 ?_)
    refine namedStop fun W75 hW75 => ?_
    have HS75 := onS hW75 (HS74.out.st3 0 rfl _ _ _)
    have HNn75 := hide (Nx.onto hW75 (HNn74.out.st3 (by simp) _ _ _))
    have HRk75 := hide (Px.onto hW75 (HRk74.out.st3 (by simp) _ _ _))
    clear HNn74 HRk74
    clear hW75 HS74
    clear p0
    have p0 := rD HS75
    have lv76 := lV HS75
    have hSt76 : St w W75 [pe w.heap.size a l cap i61 true, pz (w.heap.size + 1), nz (w.heap.size + 1 + 1), ne (w.heap.size + 1 + 1 + 1) 34 ⟨#[]⟩ y q c, ne w8.heap.size k61 s61 y61 m61 c61, pe w61.heap.size a l cap i61 false, ne (w61.heap.size + 1) k61 s61 y61 m61 c61] := HS75.out
    have hPx76 : Px w W75 [w.heap.size, w.heap.size + 1, w.heap.size + 1 + 1, w.heap.size + 1 + 1 + 1, w8.heap.size, w61.heap.size, w61.heap.size + 1] (.slice y q c) ds [d61] [.int .i64 k61, .string s61, .slice y61 m61 c61] := HRk75.out
    obtain ⟨v76, w76, hr76, hH76, hS76⟩ := hPx76.snoc hSt76 rfl (by simp only [List.length_cons, List.length_nil]; omega) (by simp)
    simp only [List.length_cons, List.length_nil, Nat.zero_add] at hr76
    obtain ⟨y76, n76, c76, rfl⟩ := hH76.form'
    clear hSt76 hPx76 HS75 HRk75 HNn75
    have HS76 := hide hS76
    have HRk76 := hide hH76
    clear hS76 hH76
    have rr0 := rD HS76
    go_wp2_with (at_builtin; refine wpList_append_run rfl _ _ (by rfl) (by rfl) (by rfl) (by rfl) hr76 ?_)
    clear hr76 p0
    refine namedWp fun W78 hW78 => ?_
    have HS78 := onS hW78 (HS76.out.st 3 rfl 2 _)
    have HRk78 := hide (Px.onto hW78 (HRk76.out.st (by simp) _ _))
    clear HRk76
    clear hW78 HS76
    clear rr0
    have HNm77 := hide (show Nx w W78 [w.heap.size, w.heap.size + 1, w.heap.size + 1 + 1, w.heap.size + 1 + 1 + 1, w8.heap.size, w61.heap.size, w61.heap.size + 1] (Nd.of 34 ⟨#[]⟩ (ds ++ [d61])) (.agg #[.int .i64 34, .string ⟨#[]⟩, .slice y76 n76 c76]) from Px.node HRk78.out (by omega) (by decide))
    clear HRk78
    refine namedWp fun W79 hW79 => ?_
    have HS79 := hide (St.onto hW79 HS78.out)
    have HNm79 := hide (Nx.onto hW79 HNm77.out)
    clear HNm77
    clear hW79 HS78
    refine rgn HS79.out [0, 3] fun W80 hW80 => ?_
    have HS80 := hide (St.onto hW80 HS79.out.dr)
    have HNm80 := hide (Nx.onto hW80 HNm79.out.dr)
    clear HNm79
    clear hW80 HS79
    refine tK 0 (kS HS80.out [0, 3]) ?_
    refine tK 1 (kS HS80.out [0, 3]) ?_
    refine rY 2 fun K hK => ?_
    have p1 := rG HS80 1
    go_simp
    refine onW hK (kS (HS80.out.st3 1 rfl _ _ _) [0, 3]) fun W81 hW81 => ?_
    clear hK K
    have HS81 := onS hW81 (HS80.out.st3 1 rfl _ _ _)
    have HNm81 := hide (Nx.onto hW81 (HNm80.out.st3 (by simp) _ _ _))
    clear HNm80
    clear hW81 HS80
    clear p1
    refine rY 3 fun K hK => ?_
    have p2 := rG HS81 2
    go_simp
    refine onW hK (kS (HS81.out.st3 2 rfl _ _ _) [0, 3]) fun W82 hW82 => ?_
    clear hK K
    have HS82 := onS hW82 (HS81.out.st3 2 rfl _ _ _)
    have HNm82 := hide (Nx.onto hW82 (HNm81.out.st3 (by simp) _ _ _))
    clear HNm81
    clear hW82 HS81
    clear p2
    refine wpAnyH_done (by kernel_rfl) ?_ _
    go_wp2_with fail
    refine namedPost fun W83 hW83 => ?_
    have HS83 := hide (St.onto hW83 HS82.out)
    have HNm83 := hide (Nx.onto hW83 HNm82.out)
    clear HNm82
    clear hW83 HS82
    exact ended_pn rfl rfl rfl (HS83.out.get 1 rfl) (HS83.out.get 2 rfl) ⟨⟨_, _, _, _, _, _, _, _, rfl, HNm83.out.out, ⟨by omega, by omega, by omega⟩, by rw [cntOf, cntL_app, cntL_one]; omega⟩, HS83.out.below⟩
   go_wp2_with (refine stopAt 83 ?_)
   refine namedStop fun W84 hW84 => ?_
   have HS84 := hide (St.onto hW84 HS63.out)
   have HNn84 := hide (Nx.onto hW84 HNn63.out)
   have HRk84 := hide (Px.onto hW84 HRk63.out)
   clear HNn63 HRk63
   clear hW84 HS63
   clear p0
   have p0 := rD HS84
   have lv85 := lV HS84
   have hSt85 : St w W84 [pe w.heap.size a l cap i61 false, pz (w.heap.size + 1), nz (w.heap.size + 1 + 1), ne (w.heap.size + 1 + 1 + 1) 34 ⟨#[]⟩ y q c, ne w8.heap.size k61 s61 y61 m61 c61, pe w61.heap.size a l cap i61 false, ne (w61.heap.size + 1) k61 s61 y61 m61 c61] := HS84.out
   have hPx85 : Px w W84 [w.heap.size, w.heap.size + 1, w.heap.size + 1 + 1, w.heap.size + 1 + 1 + 1, w8.heap.size, w61.heap.size, w61.heap.size + 1] (.slice y q c) ds [d61] [.int .i64 k61, .string s61, .slice y61 m61 c61] := HRk84.out
   obtain ⟨v85, w85, hr85, hH85, hS85⟩ := hPx85.snoc hSt85 rfl (by simp only [List.length_cons, List.length_nil]; omega) (by simp)
   simp only [List.length_cons, List.length_nil, Nat.zero_add] at hr85
   obtain ⟨y85, n85, c85, rfl⟩ := hH85.form'
   clear hSt85 hPx85 HS84 HRk84 HNn84
   have HS85 := hide hS85
   have HRk85 := hide hH85
   clear hS85 hH85
   have rr0 := rD HS85
   go_wp2_with (at_builtin; refine wpList_append_run rfl _ _ (by rfl) (by rfl) (by rfl) (by rfl) hr85 ?_)
   clear hr85 p0
   refine namedWp fun W87 hW87 => ?_
   have HS87 := onS hW87 (HS85.out.st 3 rfl 2 _)
   have HRk87 := hide (Px.onto hW87 (HRk85.out.st (by simp) _ _))
   clear HRk85
   clear hW87 HS85
   clear rr0
   have HNm86 := hide (show Nx w W87 [w.heap.size, w.heap.size + 1, w.heap.size + 1 + 1, w.heap.size + 1 + 1 + 1, w8.heap.size, w61.heap.size, w61.heap.size + 1] (Nd.of 34 ⟨#[]⟩ (ds ++ [d61])) (.agg #[.int .i64 34, .string ⟨#[]⟩, .slice y85 n85 c85]) from Px.node HRk87.out (by omega) (by decide))
   clear HRk87
   refine namedWp fun W88 hW88 => ?_
   have HS88 := hide (St.onto hW88 HS87.out)
   have HNm88 := hide (Nx.onto hW88 HNm86.out)
   clear HNm86
   clear hW88 HS87
   refine rgn HS88.out [0, 3] fun W89 hW89 => ?_
   have HS89 := hide (St.onto hW89 HS88.out.dr)
   have HNm89 := hide (Nx.onto hW89 HNm88.out.dr)
   clear HNm88
   clear hW89 HS88
   refine tK 0 (kS HS89.out [0, 3]) ?_
   refine tK 1 (kS HS89.out [0, 3]) ?_
   refine rY 2 fun K hK => ?_
   have p1 := rG HS89 1
   go_simp
   refine onW hK (kS (HS89.out.st3 1 rfl _ _ _) [0, 3]) fun W90 hW90 => ?_
   clear hK K
   have HS90 := onS hW90 (HS89.out.st3 1 rfl _ _ _)
   have HNm90 := hide (Nx.onto hW90 (HNm89.out.st3 (by simp) _ _ _))
   clear HNm89
   clear hW90 HS89
   clear p1
   refine rY 3 fun K hK => ?_
   have p2 := rG HS90 2
   go_simp
   refine onW hK (kS (HS90.out.st3 2 rfl _ _ _) [0, 3]) fun W91 hW91 => ?_
   clear hK K
   have HS91 := onS hW91 (HS90.out.st3 2 rfl _ _ _)
   have HNm91 := hide (Nx.onto hW91 (HNm90.out.st3 (by simp) _ _ _))
   clear HNm90
   clear hW91 HS90
   clear p2
   refine wpAnyH_done (by kernel_rfl) ?_ _
   go_wp2_with fail
   refine namedPost fun W92 hW92 => ?_
   have HS92 := hide (St.onto hW92 HS91.out)
   have HNm92 := hide (Nx.onto hW92 HNm91.out)
   clear HNm91
   clear hW92 HS91
   exact ended_pn rfl rfl rfl (HS92.out.get 1 rfl) (HS92.out.get 2 rfl) ⟨⟨_, _, _, _, _, _, _, _, rfl, HNm92.out.out, ⟨by omega, by omega, by omega⟩, by rw [cntOf, cntL_app, cntL_one]; omega⟩, HS92.out.below⟩
  by_cases hlt : x < l.length
  ·
   go_wp2_with fail
   have lv93 := lV HS8
   refine named fun W93 hW93 => ?_
   have HS93 := onS hW93 HS8.out.va
   have HRk93 := hide (Px.onto hW93 (HRk8.out.var (g := w8.heap.size) (by simp) _))
   clear HRk8
   clear hW93 HS8
   clear p0
   refine (isWord_any ⟨#[100, 101, 102]⟩ (hi.below HS93.out.below)).mono ?_
   rintro e w94 ⟨rfl, hb94⟩
   have HS94 := hide (HS93.out.call hb94)
   have HRk94 := hide (HRk93.out.call hb94)
   clear HRk93
   clear hb94 HS93
   have p0 := rD HS94
   cases hq95 : wordB (tokAt l x false) ⟨#[100, 101, 102]⟩
   case true =>
    have hlt96 := (wordB_in hq95).2
    clear hq95
    go_wp2_with fail
    refine (HK.out.def_ true (hi.below HS94.out.below) (by omega) (by omega)).mono ?_
    rintro e w97 ⟨⟨i97, bad97, d97, k97, s97, y97, m97, c97, rfl, hn97, ⟨hi97, hl97, hp97⟩, hc97⟩, hb97⟩
    have HS97 := hide (HS94.out.call hb97)
    have HRk97 := hide (Px.made HRk94.out hn97 hb97 HS94.out rfl)
    clear HRk94
    have HNn297 := hide (show Nx w w97 [w.heap.size, w.heap.size + 1, w.heap.size + 1 + 1, w.heap.size + 1 + 1 + 1, w8.heap.size] _ _ from Nx.made hn97 HS94.out)
    clear hn97 hb97 HS94
    clear p0
    have p0 := rD HS97
    go_wp2_with (refine stopAt 56 ?_)
    have lv98 := lV HS97
    refine namedStop fun W98 hW98 => ?_
    have HS98 := onS hW98 (HS97.out.st3 0 rfl _ _ _).va.va
    have HNn298 := hide (Nx.onto hW98 (((HNn297.out.st3 (by simp) _ _ _).var (g := w97.heap.size) (by simp) _).var (g := w97.heap.size + 1) (by simp) _))
    have HRk98 := hide (Px.onto hW98 (((HRk97.out.st3 (by simp) _ _ _).var (g := w97.heap.size) (by simp) _).var (g := w97.heap.size + 1) (by simp) _))
    clear HNn297 HRk97
    clear hW98 HS97
    clear p0
    have p0 := rD HS98
    go_wp2_with (refine stopAt 64 ?_)
    refine namedStop fun W99 hW99 => ?_
    have HS99 := onS hW99 (HS98.out.st3 4 rfl _ _ _)
    have HNn99 := hide (Nx.onto hW99 (HNn298.out.st3 (by simp) _ _ _))
    have HRk99 := hide (Px.onto hW99 (HRk98.out.st3 (by simp) _ _ _))
    clear HNn298 HRk98
    clear hW99 HS98
    clear p0
    cases bad97
    case true =>
     have p0 := rD HS99
     go_wp2_with (refine stopAt 83 ?_)
     refine namedStop fun W100 hW100 => ?_
     have HS100 := hide (St.onto hW100 HS99.out)
     have HNn100 := hide (Nx.onto hW100 HNn99.out)
     have HRk100 := hide (Px.onto hW100 HRk99.out)
     clear HNn99 HRk99
     clear hW100 HS99
     clear p0
     have p0 := rD HS100
     have lv101 := lV HS100
     have hSt101 : St w W100 [pe w.heap.size a l cap i97 true, pz (w.heap.size + 1), nz (w.heap.size + 1 + 1), ne (w.heap.size + 1 + 1 + 1) 34 ⟨#[]⟩ y q c, ne w8.heap.size k97 s97 y97 m97 c97, pe w97.heap.size a l cap i97 true, ne (w97.heap.size + 1) k97 s97 y97 m97 c97] := HS100.out
     have hPx101 : Px w W100 [w.heap.size, w.heap.size + 1, w.heap.size + 1 + 1, w.heap.size + 1 + 1 + 1, w8.heap.size, w97.heap.size, w97.heap.size + 1] (.slice y q c) ds [d97] [.int .i64 k97, .string s97, .slice y97 m97 c97] := HRk100.out
     obtain ⟨v101, w101, hr101, hH101, hS101⟩ := hPx101.snoc hSt101 rfl (by simp only [List.length_cons, List.length_nil]; omega) (by simp)
     simp only [List.length_cons, List.length_nil, Nat.zero_add] at hr101
     obtain ⟨y101, n101, c101, rfl⟩ := hH101.form'
     clear hSt101 hPx101 HS100 HRk100 HNn100
     have HS101 := hide hS101
     have HRk101 := hide hH101
     clear hS101 hH101
     have rr0 := rD HS101
     go_wp2_with (at_builtin; refine wpList_append_run rfl _ _ (by rfl) (by rfl) (by rfl) (by rfl) hr101 ?_)
     clear hr101 p0
     refine namedWp fun W103 hW103 => ?_
     have HS103 := onS hW103 (HS101.out.st 3 rfl 2 _)
     have HRk103 := hide (Px.onto hW103 (HRk101.out.st (by simp) _ _))
     clear HRk101
     clear hW103 HS101
     clear rr0
     have HNm102 := hide (show Nx w W103 [w.heap.size, w.heap.size + 1, w.heap.size + 1 + 1, w.heap.size + 1 + 1 + 1, w8.heap.size, w97.heap.size, w97.heap.size + 1] (Nd.of 34 ⟨#[]⟩ (ds ++ [d97])) (.agg #[.int .i64 34, .string ⟨#[]⟩, .slice y101 n101 c101]) from Px.node HRk103.out (by omega) (by decide))
     clear HRk103
     refine namedWp fun W104 hW104 => ?_
     have HS104 := hide (St.onto hW104 HS103.out)
     have HNm104 := hide (Nx.onto hW104 HNm102.out)
     clear HNm102
     clear hW104 HS103
     refine rgn HS104.out [0, 3] fun W105 hW105 => ?_
     have HS105 := hide (St.onto hW105 HS104.out.dr)
     have HNm105 := hide (Nx.onto hW105 HNm104.out.dr)
     clear HNm104
     clear hW105 HS104
     refine tK 0 (kS HS105.out [0, 3]) ?_
     refine tK 1 (kS HS105.out [0, 3]) ?_
     refine rY 2 fun K hK => ?_
     have p1 := rG HS105 1
     go_simp
     refine onW hK (kS (HS105.out.st3 1 rfl _ _ _) [0, 3]) fun W106 hW106 => ?_
     clear hK K
     have HS106 := onS hW106 (HS105.out.st3 1 rfl _ _ _)
     have HNm106 := hide (Nx.onto hW106 (HNm105.out.st3 (by simp) _ _ _))
     clear HNm105
     clear hW106 HS105
     clear p1
     refine rY 3 fun K hK => ?_
     have p2 := rG HS106 2
     go_simp
     refine onW hK (kS (HS106.out.st3 2 rfl _ _ _) [0, 3]) fun W107 hW107 => ?_
     clear hK K
     have HS107 := onS hW107 (HS106.out.st3 2 rfl _ _ _)
     have HNm107 := hide (Nx.onto hW107 (HNm106.out.st3 (by simp) _ _ _))
     clear HNm106
     clear hW107 HS106
     clear p2
     refine wpAnyH_done (by kernel_rfl) ?_ _
     go_wp2_with fail
     refine namedPost fun W108 hW108 => ?_
     have HS108 := hide (St.onto hW108 HS107.out)
     have HNm108 := hide (Nx.onto hW108 HNm107.out)
     clear HNm107
     clear hW108 HS107
     exact ended_pn rfl rfl rfl (HS108.out.get 1 rfl) (HS108.out.get 2 rfl) ⟨⟨_, _, _, _, _, _, _, _, rfl, HNm108.out.out, ⟨by omega, by omega, by omega⟩, by rw [cntOf, cntL_app, cntL_one]; omega⟩, HS108.out.below⟩
    have p0 := rD HS99
    by_cases hend : i97 < l.length
    ·
     go_wp2_with fail
     refine (wrong_any _ _ _ _ ⟨_, _, _, rfl⟩).mono ?_
     rintro e w110 ⟨rfl, hb110⟩
     have HS110 := hide (HS99.out.call hb110)
     have HNn110 := hide (HNn99.out.call hb110)
     clear HNn99
     have HRk110 := hide (HRk99.out.call hb110)
     clear HRk99
     clear hb110 HS99
     clear p0
     have p0 := rD HS110
     have hwr109 := left_wrong l.length i97 false
     go_wp2_with (refine stopAt 83 ?_)
     refine namedStop fun W111 hW111 => ?_
     have HS111 := onS hW111 (HS110.out.st3 0 rfl _ _ _)
     have HNn111 := hide (Nx.onto hW111 (HNn110.out.st3 (by simp) _ _ _))
     have HRk111 := hide (Px.onto hW111 (HRk110.out.st3 (by simp) _ _ _))
     clear HNn110 HRk110
     clear hW111 HS110
     clear p0
     have p0 := rD HS111
     have lv112 := lV HS111
     have hSt112 : St w W111 [pe w.heap.size a l cap i97 true, pz (w.heap.size + 1), nz (w.heap.size + 1 + 1), ne (w.heap.size + 1 + 1 + 1) 34 ⟨#[]⟩ y q c, ne w8.heap.size k97 s97 y97 m97 c97, pe w97.heap.size a l cap i97 false, ne (w97.heap.size + 1) k97 s97 y97 m97 c97] := HS111.out
     have hPx112 : Px w W111 [w.heap.size, w.heap.size + 1, w.heap.size + 1 + 1, w.heap.size + 1 + 1 + 1, w8.heap.size, w97.heap.size, w97.heap.size + 1] (.slice y q c) ds [d97] [.int .i64 k97, .string s97, .slice y97 m97 c97] := HRk111.out
     obtain ⟨v112, w112, hr112, hH112, hS112⟩ := hPx112.snoc hSt112 rfl (by simp only [List.length_cons, List.length_nil]; omega) (by simp)
     simp only [List.length_cons, List.length_nil, Nat.zero_add] at hr112
     obtain ⟨y112, n112, c112, rfl⟩ := hH112.form'
     clear hSt112 hPx112 HS111 HRk111 HNn111
     have HS112 := hide hS112
     have HRk112 := hide hH112
     clear hS112 hH112
     have rr0 := rD HS112
     go_wp2_with (at_builtin; refine wpList_append_run rfl _ _ (by rfl) (by rfl) (by rfl) (by rfl) hr112 ?_)
     clear hr112 p0
     refine namedWp fun W114 hW114 => ?_
     have HS114 := onS hW114 (HS112.out.st 3 rfl 2 _)
     have HRk114 := hide (Px.onto hW114 (HRk112.out.st (by simp) _ _))
     clear HRk112
     clear hW114 HS112
     clear rr0
     have HNm113 := hide (show Nx w W114 [w.heap.size, w.heap.size + 1, w.heap.size + 1 + 1, w.heap.size + 1 + 1 + 1, w8.heap.size, w97.heap.size, w97.heap.size + 1] (Nd.of 34 ⟨#[]⟩ (ds ++ [d97])) (.agg #[.int .i64 34, .string ⟨#[]⟩, .slice y112 n112 c112]) from Px.node HRk114.out (by omega) (by decide))
     clear HRk114
     refine namedWp fun W115 hW115 => ?_
     have HS115 := hide (St.onto hW115 HS114.out)
     have HNm115 := hide (Nx.onto hW115 HNm113.out)
     clear HNm113
     clear hW115 HS114
     refine rgn HS115.out [0, 3] fun W116 hW116 => ?_
     have HS116 := hide (St.onto hW116 HS115.out.dr)
     have HNm116 := hide (Nx.onto hW116 HNm115.out.dr)
     clear HNm115
     clear hW116 HS115
     refine tK 0 (kS HS116.out [0, 3]) ?_
     refine tK 1 (kS HS116.out [0, 3]) ?_
     refine rY 2 fun K hK => ?_
     have p1 := rG HS116 1
     go_simp
     refine onW hK (kS (HS116.out.st3 1 rfl _ _ _) [0, 3]) fun W117 hW117 => ?_
     clear hK K
     have HS117 := onS hW117 (HS116.out.st3 1 rfl _ _ _)
     have HNm117 := hide (Nx.onto hW117 (HNm116.out.st3 (by simp) _ _ _))
     clear HNm116
     clear hW117 HS116
     clear p1
     refine rY 3 fun K hK => ?_
     have p2 := rG HS117 2
     go_simp
     refine onW hK (kS (HS117.out.st3 2 rfl _ _ _) [0, 3]) fun W118 hW118 => ?_
     clear hK K
     have HS118 := onS hW118 (HS117.out.st3 2 rfl _ _ _)
     have HNm118 := hide (Nx.onto hW118 (HNm117.out.st3 (by simp) _ _ _))
     clear HNm117
     clear hW118 HS117
     clear p2
     refine wpAnyH_done (by kernel_rfl) ?_ _
     go_wp2_with fail
     refine namedPost fun W119 hW119 => ?_
     have HS119 := hide (St.onto hW119 HS118.out)
     have HNm119 := hide (Nx.onto hW119 HNm118.out)
     clear HNm118
     clear hW119 HS118
     exact ended_pn rfl rfl rfl (HS119.out.get 1 rfl) (HS119.out.get 2 rfl) ⟨⟨_, _, _, _, _, _, _, _, rfl, HNm119.out.out, ⟨by omega, by omega, by omega⟩, by rw [cntOf, cntL_app, cntL_one]; omega⟩, HS119.out.below⟩
    go_wp2_with (refine stopAt 83 ?_)
    refine namedStop fun W120 hW120 => ?_
    have HS120 := hide (St.onto hW120 HS99.out)
    have HNn120 := hide (Nx.onto hW120 HNn99.out)
    have HRk120 := hide (Px.onto hW120 HRk99.out)
    clear HNn99 HRk99
    clear hW120 HS99
    clear p0
    have p0 := rD HS120
    have lv121 := lV HS120
    have hSt121 : St w W120 [pe w.heap.size a l cap i97 false, pz (w.heap.size + 1), nz (w.heap.size + 1 + 1), ne (w.heap.size + 1 + 1 + 1) 34 ⟨#[]⟩ y q c, ne w8.heap.size k97 s97 y97 m97 c97, pe w97.heap.size a l cap i97 false, ne (w97.heap.size + 1) k97 s97 y97 m97 c97] := HS120.out
    have hPx121 : Px w W120 [w.heap.size, w.heap.size + 1, w.heap.size + 1 + 1, w.heap.size + 1 + 1 + 1, w8.heap.size, w97.heap.size, w97.heap.size + 1] (.slice y q c) ds [d97] [.int .i64 k97, .string s97, .slice y97 m97 c97] := HRk120.out
    obtain ⟨v121, w121, hr121, hH121, hS121⟩ := hPx121.snoc hSt121 rfl (by simp only [List.length_cons, List.length_nil]; omega) (by simp)
    simp only [List.length_cons, List.length_nil, Nat.zero_add] at hr121
    obtain ⟨y121, n121, c121, rfl⟩ := hH121.form'
    clear hSt121 hPx121 HS120 HRk120 HNn120
    have HS121 := hide hS121
    have HRk121 := hide hH121
    clear hS121 hH121
    have rr0 := rD HS121
    go_wp2_with (at_builtin; refine wpList_append_run rfl _ _ (by rfl) (by rfl) (by rfl) (by rfl) hr121 ?_)
    clear hr121 p0
    refine namedWp fun W123 hW123 => ?_
    have HS123 := onS hW123 (HS121.out.st 3 rfl 2 _)
    have HRk123 := hide (Px.onto hW123 (HRk121.out.st (by simp) _ _))
    clear HRk121
    clear hW123 HS121
    clear rr0
    have HNm122 := hide (show Nx w W123 [w.heap.size, w.heap.size + 1, w.heap.size + 1 + 1, w.heap.size + 1 + 1 + 1, w8.heap.size, w97.heap.size, w97.heap.size + 1] (Nd.of 34 ⟨#[]⟩ (ds ++ [d97])) (.agg #[.int .i64 34, .string ⟨#[]⟩, .slice y121 n121 c121]) from Px.node HRk123.out (by omega) (by decide))
    clear HRk123
    refine namedWp fun W124 hW124 => ?_
    have HS124 := hide (St.onto hW124 HS123.out)
    have HNm124 := hide (Nx.onto hW124 HNm122.out)
    clear HNm122
    clear hW124 HS123
    refine rgn HS124.out [0, 3] fun W125 hW125 => ?_
    have HS125 := hide (St.onto hW125 HS124.out.dr)
    have HNm125 := hide (Nx.onto hW125 HNm124.out.dr)
    clear HNm124
    clear hW125 HS124
    refine tK 0 (kS HS125.out [0, 3]) ?_
    refine tK 1 (kS HS125.out [0, 3]) ?_
    refine rY 2 fun K hK => ?_
    have p1 := rG HS125 1
    go_simp
    refine onW hK (kS (HS125.out.st3 1 rfl _ _ _) [0, 3]) fun W126 hW126 => ?_
    clear hK K
    have HS126 := onS hW126 (HS125.out.st3 1 rfl _ _ _)
    have HNm126 := hide (Nx.onto hW126 (HNm125.out.st3 (by simp) _ _ _))
    clear HNm125
    clear hW126 HS125
    clear p1
    refine rY 3 fun K hK => ?_
    have p2 := rG HS126 2
    go_simp
    refine onW hK (kS (HS126.out.st3 2 rfl _ _ _) [0, 3]) fun W127 hW127 => ?_
    clear hK K
    have HS127 := onS hW127 (HS126.out.st3 2 rfl _ _ _)
    have HNm127 := hide (Nx.onto hW127 (HNm126.out.st3 (by simp) _ _ _))
    clear HNm126
    clear hW127 HS126
    clear p2
    refine wpAnyH_done (by kernel_rfl) ?_ _
    go_wp2_with fail
    refine namedPost fun W128 hW128 => ?_
    have HS128 := hide (St.onto hW128 HS127.out)
    have HNm128 := hide (Nx.onto hW128 HNm127.out)
    clear HNm127
    clear hW128 HS127
    exact ended_pn rfl rfl rfl (HS128.out.get 1 rfl) (HS128.out.get 2 rfl) ⟨⟨_, _, _, _, _, _, _, _, rfl, HNm128.out.out, ⟨by omega, by omega, by omega⟩, by rw [cntOf, cntL_app, cntL_one]; omega⟩, HS128.out.below⟩
   clear hq95
   go_wp2_with fail
   refine (HK.out.pipe (hi.below HS94.out.below) (by omega) (by omega)).mono ?_
   rintro e w129 ⟨⟨i129, bad129, d129, k129, s129, y129, m129, c129, rfl, hn129, ⟨hi129, hl129, hp129⟩, hc129⟩, hb129⟩
   have HS129 := hide (HS94.out.call hb129)
   have HRk129 := hide (Px.made HRk94.out hn129 hb129 HS94.out rfl)
   clear HRk94
   have HNn2129 := hide (show Nx w w129 [w.heap.size, w.heap.size + 1, w.heap.size + 1 + 1, w.heap.size + 1 + 1 + 1, w8.heap.size] _ _ from Nx.made hn129 HS94.out)
   clear hn129 hb129 HS94
   clear p0
   have p0 := rD HS129
   go_wp2_with (refine stopAt 63 ?_)
   have lv130 := lV HS129
   refine namedStop fun W130 hW130 => ?_
   have HS130 := onS hW130 (HS129.out.st3 0 rfl _ _ _).va.va
   have HNn2130 := hide (Nx.onto hW130 (((HNn2129.out.st3 (by simp) _ _ _).var (g := w129.heap.size) (by simp) _).var (g := w129.heap.size + 1) (by simp) _))
   have HRk130 := hide (Px.onto hW130 (((HRk129.out.st3 (by simp) _ _ _).var (g := w129.heap.size) (by simp) _).var (g := w129.heap.size + 1) (by simp) _))
   clear HNn2129 HRk129
   clear hW130 HS129
   clear p0
   have p0 := rD HS130
   go_wp2_with (refine stopAt 64 ?_)
   refine namedStop fun W131 hW131 => ?_
   have HS131 := onS hW131 (HS130.out.st3 4 rfl _ _ _)
   have HNn131 := hide (Nx.onto hW131 (HNn2130.out.st3 (by simp) _ _ _))
   have HRk131 := hide (Px.onto hW131 (HRk130.out.st3 (by simp) _ _ _))
   clear HNn2130 HRk130
   clear hW131 HS130
   clear p0
   cases bad129
   case true =>
    have p0 := rD HS131
    go_wp2_with (refine stopAt 83 ?_)
    refine namedStop fun W132 hW132 => ?_
    have HS132 := hide (St.onto hW132 HS131.out)
    have HNn132 := hide (Nx.onto hW132 HNn131.out)
    have HRk132 := hide (Px.onto hW132 HRk131.out)
    clear HNn131 HRk131
    clear hW132 HS131
    clear p0
    have p0 := rD HS132
    have lv133 := lV HS132
    have hSt133 : St w W132 [pe w.heap.size a l cap i129 true, pz (w.heap.size + 1), nz (w.heap.size + 1 + 1), ne (w.heap.size + 1 + 1 + 1) 34 ⟨#[]⟩ y q c, ne w8.heap.size k129 s129 y129 m129 c129, pe w129.heap.size a l cap i129 true, ne (w129.heap.size + 1) k129 s129 y129 m129 c129] := HS132.out
    have hPx133 : Px w W132 [w.heap.size, w.heap.size + 1, w.heap.size + 1 + 1, w.heap.size + 1 + 1 + 1, w8.heap.size, w129.heap.size, w129.heap.size + 1] (.slice y q c) ds [d129] [.int .i64 k129, .string s129, .slice y129 m129 c129] := HRk132.out
    obtain ⟨v133, w133, hr133, hH133, hS133⟩ := hPx133.snoc hSt133 rfl (by simp only [List.length_cons, List.length_nil]; omega) (by simp)
    simp only [List.length_cons, List.length_nil, Nat.zero_add] at hr133
    obtain ⟨y133, n133, c133, rfl⟩ := hH133.form'
    clear hSt133 hPx133 HS132 HRk132 HNn132
    have HS133 := hide hS133
    have HRk133 := hide hH133
    clear hS133 hH133
    have rr0 := rD HS133
    go_wp2_with (at_builtin; refine wpList_append_run rfl _ _ (by rfl) (by rfl) (by rfl) (by rfl) hr133 ?_)
    clear hr133 p0
    refine namedWp fun W135 hW135 => ?_
    have HS135 := onS hW135 (HS133.out.st 3 rfl 2 _)
    have HRk135 := hide (Px.onto hW135 (HRk133.out.st (by simp) _ _))
    clear HRk133
    clear hW135 HS133
    clear rr0
    have HNm134 := hide (show Nx w W135 [w.heap.size, w.heap.size + 1, w.heap.size + 1 + 1, w.heap.size + 1 + 1 + 1, w8.heap.size, w129.heap.size, w129.heap.size + 1] (Nd.of 34 ⟨#[]⟩ (ds ++ [d129])) (.agg #[.int .i64 34, .string ⟨#[]⟩, .slice y133 n133 c133]) from Px.node HRk135.out (by omega) (by decide))
    clear HRk135
    refine namedWp fun W136 hW136 => ?_
    have HS136 := hide (St.onto hW136 HS135.out)
    have HNm136 := hide (Nx.onto hW136 HNm134.out)
    clear HNm134
    clear hW136 HS135
    refine rgn HS136.out [0, 3] fun W137 hW137 => ?_
    have HS137 := hide (St.onto hW137 HS136.out.dr)
    have HNm137 := hide (Nx.onto hW137 HNm136.out.dr)
    clear HNm136
    clear hW137 HS136
    refine tK 0 (kS HS137.out [0, 3]) ?_
    refine tK 1 (kS HS137.out [0, 3]) ?_
    refine rY 2 fun K hK => ?_
    have p1 := rG HS137 1
    go_simp
    refine onW hK (kS (HS137.out.st3 1 rfl _ _ _) [0, 3]) fun W138 hW138 => ?_
    clear hK K
    have HS138 := onS hW138 (HS137.out.st3 1 rfl _ _ _)
    have HNm138 := hide (Nx.onto hW138 (HNm137.out.st3 (by simp) _ _ _))
    clear HNm137
    clear hW138 HS137
    clear p1
    refine rY 3 fun K hK => ?_
    have p2 := rG HS138 2
    go_simp
    refine onW hK (kS (HS138.out.st3 2 rfl _ _ _) [0, 3]) fun W139 hW139 => ?_
    clear hK K
    have HS139 := onS hW139 (HS138.out.st3 2 rfl _ _ _)
    have HNm139 := hide (Nx.onto hW139 (HNm138.out.st3 (by simp) _ _ _))
    clear HNm138
    clear hW139 HS138
    clear p2
    refine wpAnyH_done (by kernel_rfl) ?_ _
    go_wp2_with fail
    refine namedPost fun W140 hW140 => ?_
    have HS140 := hide (St.onto hW140 HS139.out)
    have HNm140 := hide (Nx.onto hW140 HNm139.out)
    clear HNm139
    clear hW140 HS139
    exact ended_pn rfl rfl rfl (HS140.out.get 1 rfl) (HS140.out.get 2 rfl) ⟨⟨_, _, _, _, _, _, _, _, rfl, HNm140.out.out, ⟨by omega, by omega, by omega⟩, by rw [cntOf, cntL_app, cntL_one]; omega⟩, HS140.out.below⟩
   have p0 := rD HS131
   by_cases hend : i129 < l.length
   ·
    go_wp2_with fail
    refine (wrong_any _ _ _ _ ⟨_, _, _, rfl⟩).mono ?_
    rintro e w142 ⟨rfl, hb142⟩
    have HS142 := hide (HS131.out.call hb142)
    have HNn142 := hide (HNn131.out.call hb142)
    clear HNn131
    have HRk142 := hide (HRk131.out.call hb142)
    clear HRk131
    clear hb142 HS131
    clear p0
    have p0 := rD HS142
    have hwr141 := left_wrong l.length i129 false
    go_wp2_with (refine stopAt 83 ?_)
    refine namedStop fun W143 hW143 => ?_
    have HS143 := onS hW143 (HS142.out.st3 0 rfl _ _ _)
    have HNn143 := hide (Nx.onto hW143 (HNn142.out.st3 (by simp) _ _ _))
    have HRk143 := hide (Px.onto hW143 (HRk142.out.st3 (by simp) _ _ _))
    clear HNn142 HRk142
    clear hW143 HS142
    clear p0
    have p0 := rD HS143
    have lv144 := lV HS143
    have hSt144 : St w W143 [pe w.heap.size a l cap i129 true, pz (w.heap.size + 1), nz (w.heap.size + 1 + 1), ne (w.heap.size + 1 + 1 + 1) 34 ⟨#[]⟩ y q c, ne w8.heap.size k129 s129 y129 m129 c129, pe w129.heap.size a l cap i129 false, ne (w129.heap.size + 1) k129 s129 y129 m129 c129] := HS143.out
    have hPx144 : Px w W143 [w.heap.size, w.heap.size + 1, w.heap.size + 1 + 1, w.heap.size + 1 + 1 + 1, w8.heap.size, w129.heap.size, w129.heap.size + 1] (.slice y q c) ds [d129] [.int .i64 k129, .string s129, .slice y129 m129 c129] := HRk143.out
    obtain ⟨v144, w144, hr144, hH144, hS144⟩ := hPx144.snoc hSt144 rfl (by simp only [List.length_cons, List.length_nil]; omega) (by simp)
    simp only [List.length_cons, List.length_nil, Nat.zero_add] at hr144
    obtain ⟨y144, n144, c144, rfl⟩ := hH144.form'
    clear hSt144 hPx144 HS143 HRk143 HNn143
    have HS144 := hide hS144
    have HRk144 := hide hH144
    clear hS144 hH144
    have rr0 := rD HS144
    go_wp2_with (at_builtin; refine wpList_append_run rfl _ _ (by rfl) (by rfl) (by rfl) (by rfl) hr144 ?_)
    clear hr144 p0
    refine namedWp fun W146 hW146 => ?_
    have HS146 := onS hW146 (HS144.out.st 3 rfl 2 _)
    have HRk146 := hide (Px.onto hW146 (HRk144.out.st (by simp) _ _))
    clear HRk144
    clear hW146 HS144
    clear rr0
    have HNm145 := hide (show Nx w W146 [w.heap.size, w.heap.size + 1, w.heap.size + 1 + 1, w.heap.size + 1 + 1 + 1, w8.heap.size, w129.heap.size, w129.heap.size + 1] (Nd.of 34 ⟨#[]⟩ (ds ++ [d129])) (.agg #[.int .i64 34, .string ⟨#[]⟩, .slice y144 n144 c144]) from Px.node HRk146.out (by omega) (by decide))
    clear HRk146
    refine namedWp fun W147 hW147 => ?_
    have HS147 := hide (St.onto hW147 HS146.out)
    have HNm147 := hide (Nx.onto hW147 HNm145.out)
    clear HNm145
    clear hW147 HS146
    refine rgn HS147.out [0, 3] fun W148 hW148 => ?_
    have HS148 := hide (St.onto hW148 HS147.out.dr)
    have HNm148 := hide (Nx.onto hW148 HNm147.out.dr)
    clear HNm147
    clear hW148 HS147
    refine tK 0 (kS HS148.out [0, 3]) ?_
    refine tK 1 (kS HS148.out [0, 3]) ?_
    refine rY 2 fun K hK => ?_
    have p1 := rG HS148 1
    go_simp
    refine onW hK (kS (HS148.out.st3 1 rfl _ _ _) [0, 3]) fun W149 hW149 => ?_
    clear hK K
    have HS149 := onS hW149 (HS148.out.st3 1 rfl _ _ _)
    have HNm149 := hide (Nx.onto hW149 (HNm148.out.st3 (by simp) _ _ _))
    clear HNm148
    clear hW149 HS148
    clear p1
    refine rY 3 fun K hK => ?_
    have p2 := rG HS149 2
    go_simp
    refine onW hK (kS (HS149.out.st3 2 rfl _ _ _) [0, 3]) fun W150 hW150 => ?_
    clear hK K
    have HS150 := onS hW150 (HS149.out.st3 2 rfl _ _ _)
    have HNm150 := hide (Nx.onto hW150 (HNm149.out.st3 (by simp) _ _ _))
    clear HNm149
    clear hW150 HS149
    clear p2
    refine wpAnyH_done (by kernel_rfl) ?_ _
    go_wp2_with fail
    refine namedPost fun W151 hW151 => ?_
    have HS151 := hide (St.onto hW151 HS150.out)
    have HNm151 := hide (Nx.onto hW151 HNm150.out)
    clear HNm150
    clear hW151 HS150
    exact ended_pn rfl rfl rfl (HS151.out.get 1 rfl) (HS151.out.get 2 rfl) ⟨⟨_, _, _, _, _, _, _, _, rfl, HNm151.out.out, ⟨by omega, by omega, by omega⟩, by rw [cntOf, cntL_app, cntL_one]; omega⟩, HS151.out.below⟩
   go_wp2_with (refine stopAt 83 ?_)
   refine namedStop fun W152 hW152 => ?_
   have HS152 := hide (St.onto hW152 HS131.out)
   have HNn152 := hide (Nx.onto hW152 HNn131.out)
   have HRk152 := hide (Px.onto hW152 HRk131.out)
   clear HNn131 HRk131
   clear hW152 HS131
   clear p0
   have p0 := rD HS152
   have lv153 := lV HS152
   have hSt153 : St w W152 [pe w.heap.size a l cap i129 false, pz (w.heap.size + 1), nz (w.heap.size + 1 + 1), ne (w.heap.size + 1 + 1 + 1) 34 ⟨#[]⟩ y q c, ne w8.heap.size k129 s129 y129 m129 c129, pe w129.heap.size a l cap i129 false, ne (w129.heap.size + 1) k129 s129 y129 m129 c129] := HS152.out
   have hPx153 : Px w W152 [w.heap.size, w.heap.size + 1, w.heap.size + 1 + 1, w.heap.size + 1 + 1 + 1, w8.heap.size, w129.heap.size, w129.heap.size + 1] (.slice y q c) ds [d129] [.int .i64 k129, .string s129, .slice y129 m129 c129] := HRk152.out
   obtain ⟨v153, w153, hr153, hH153, hS153⟩ := hPx153.snoc hSt153 rfl (by simp only [List.length_cons, List.length_nil]; omega) (by simp)
   simp only [List.length_cons, List.length_nil, Nat.zero_add] at hr153
   obtain ⟨y153, n153, c153, rfl⟩ := hH153.form'
   clear hSt153 hPx153 HS152 HRk152 HNn152
   have HS153 := hide hS153
   have HRk153 := hide hH153
   clear hS153 hH153
   have rr0 := rD HS153
   go_wp2_with (at_builtin; refine wpList_append_run rfl _ _ (by rfl) (by rfl) (by rfl) (by rfl) hr153 ?_)
   clear hr153 p0
   refine namedWp fun W155 hW155 => ?_
   have HS155 := onS hW155 (HS153.out.st 3 rfl 2 _)
   have HRk155 := hide (Px.onto hW155 (HRk153.out.st (by simp) _ _))
   clear HRk153
   clear hW155 HS153
   clear rr0
   have HNm154 := hide (show Nx w W155 [w.heap.size, w.heap.size + 1, w.heap.size + 1 + 1, w.heap.size + 1 + 1 + 1, w8.heap.size, w129.heap.size, w129.heap.size + 1] (Nd.of 34 ⟨#[]⟩ (ds ++ [d129])) (.agg #[.int .i64 34, .string ⟨#[]⟩, .slice y153 n153 c153]) from Px.node HRk155.out (by omega) (by decide))
   clear HRk155
   refine namedWp fun W156 hW156 => ?_
   have HS156 := hide (St.onto hW156 HS155.out)
   have HNm156 := hide (Nx.onto hW156 HNm154.out)
   clear HNm154
   clear hW156 HS155
   refine rgn HS156.out [0, 3] fun W157 hW157 => ?_
   have HS157 := hide (St.onto hW157 HS156.out.dr)
   have HNm157 := hide (Nx.onto hW157 HNm156.out.dr)
   clear HNm156
   clear hW157 HS156
   refine tK 0 (kS HS157.out [0, 3]) ?_
   refine tK 1 (kS HS157.out [0, 3]) ?_
   refine rY 2 fun K hK => ?_
   have p1 := rG HS157 1
   go_simp
   refine onW hK (kS (HS157.out.st3 1 rfl _ _ _) [0, 3]) fun W158 hW158 => ?_
   clear hK K
   have HS158 := onS hW158 (HS157.out.st3 1 rfl _ _ _)
   have HNm158 := hide (Nx.onto hW158 (HNm157.out.st3 (by simp) _ _ _))
   clear HNm157
   clear hW158 HS157
   clear p1
   refine rY 3 fun K hK => ?_
   have p2 := rG HS158 2
   go_simp
   refine onW hK (kS (HS158.out.st3 2 rfl _ _ _) [0, 3]) fun W159 hW159 => ?_
   clear hK K
   have HS159 := onS hW159 (HS158.out.st3 2 rfl _ _ _)
   have HNm159 := hide (Nx.onto hW159 (HNm158.out.st3 (by simp) _ _ _))
   clear HNm158
   clear hW159 HS158
   clear p2
   refine wpAnyH_done (by kernel_rfl) ?_ _
   go_wp2_with fail
   refine namedPost fun W160 hW160 => ?_
   have HS160 := hide (St.onto hW160 HS159.out)
   have HNm160 := hide (Nx.onto hW160 HNm159.out)
   clear HNm159
   clear hW160 HS159
   exact ended_pn rfl rfl rfl (HS160.out.get 1 rfl) (HS160.out.get 2 rfl) ⟨⟨_, _, _, _, _, _, _, _, rfl, HNm160.out.out, ⟨by omega, by omega, by omega⟩, by rw [cntOf, cntL_app, cntL_one]; omega⟩, HS160.out.below⟩
  go_wp2_with (refine stopAt 32 ?_)
  have lv161 := lV HS8
  refine namedStop fun W161 hW161 => ?_
  have HS161 := onS hW161 HS8.out.va
  have HRk161 := hide (Px.onto hW161 (HRk8.out.var (g := w8.heap.size) (by simp) _))
  clear HRk8
  clear hW161 HS8
  clear p0
  have p0 := rD HS161
  go_wp2_with (refine stopAt 83 ?_)
  refine namedStop fun W162 hW162 => ?_
  have HS162 := hide (St.onto hW162 HS161.out)
  have HRk162 := hide (Px.onto hW162 HRk161.out)
  clear HRk161
  clear hW162 HS161
  clear p0
  have p0 := rD HS162
  have HRk163 := hide (show Px w W162 [w.heap.size, w.heap.size + 1, w.heap.size + 1 + 1, w.heap.size + 1 + 1 + 1, w8.heap.size] (.slice y q c) ds [.mk 0 ⟨#[]⟩ .nil] [.int .i64 0, .string ⟨#[]⟩, .slice none 0 0] from Px.leaf HRk162.out (by omega) (by decide))
  clear HRk162
  have lv164 := lV HS162
  have hSt164 : St w W162 [pe w.heap.size a l cap x false, pz (w.heap.size + 1), nz (w.heap.size + 1 + 1), ne (w.heap.size + 1 + 1 + 1) 34 ⟨#[]⟩ y q c, nz w8.heap.size] := HS162.out
  have hPx164 : Px w W162 [w.heap.size, w.heap.size + 1, w.heap.size + 1 + 1, w.heap.size + 1 + 1 + 1, w8.heap.size] (.slice y q c) ds [.mk 0 ⟨#[]⟩ .nil] [.int .i64 0, .string ⟨#[]⟩, .slice none 0 0] := HRk163.out
  obtain ⟨v164, w164, hr164, hH164, hS164⟩ := hPx164.snoc hSt164 rfl (by simp only [List.length_cons, List.length_nil]; omega) (by simp)
  simp only [List.length_cons, List.length_nil, Nat.zero_add] at hr164
  obtain ⟨y164, n164, c164, rfl⟩ := hH164.form'
  clear hSt164 hPx164 HS162 HRk163
  have HS164 := hide hS164
  have HRk164 := hide hH164
  clear hS164 hH164
  have rr0 := rD HS164
  go_wp2_with (at_builtin; refine wpList_append_run rfl _ _ (by rfl) (by rfl) (by rfl) (by rfl) hr164 ?_)
  clear hr164 p0
  refine namedWp fun W166 hW166 => ?_
  have HS166 := onS hW166 (HS164.out.st 3 rfl 2 _)
  have HRk166 := hide (Px.onto hW166 (HRk164.out.st (by simp) _ _))
  clear HRk164
  clear hW166 HS164
  clear rr0
  have HNm165 := hide (show Nx w W166 [w.heap.size, w.heap.size + 1, w.heap.size + 1 + 1, w.heap.size + 1 + 1 + 1, w8.heap.size] (Nd.of 34 ⟨#[]⟩ (ds ++ [.mk 0 ⟨#[]⟩ .nil])) (.agg #[.int .i64 34, .string ⟨#[]⟩, .slice y164 n164 c164]) from Px.node HRk166.out (by omega) (by decide))
  clear HRk166
  refine namedWp fun W167 hW167 => ?_
  have HS167 := hide (St.onto hW167 HS166.out)
  have HNm167 := hide (Nx.onto hW167 HNm165.out)
  clear HNm165
  clear hW167 HS166
  refine rgn HS167.out [0, 3] fun W168 hW168 => ?_
  have HS168 := hide (St.onto hW168 HS167.out.dr)
  have HNm168 := hide (Nx.onto hW168 HNm167.out.dr)
  clear HNm167
  clear hW168 HS167
  refine tK 0 (kS HS168.out [0, 3]) ?_
  refine tK 1 (kS HS168.out [0, 3]) ?_
  refine rY 2 fun K hK => ?_
  have p1 := rG HS168 1
  go_simp
  refine onW hK (kS (HS168.out.st3 1 rfl _ _ _) [0, 3]) fun W169 hW169 => ?_
  clear hK K
  have HS169 := onS hW169 (HS168.out.st3 1 rfl _ _ _)
  have HNm169 := hide (Nx.onto hW169 (HNm168.out.st3 (by simp) _ _ _))
  clear HNm168
  clear hW169 HS168
  clear p1
  refine rY 3 fun K hK => ?_
  have p2 := rG HS169 2
  go_simp
  refine onW hK (kS (HS169.out.st3 2 rfl _ _ _) [0, 3]) fun W170 hW170 => ?_
  clear hK K
  have HS170 := onS hW170 (HS169.out.st3 2 rfl _ _ _)
  have HNm170 := hide (Nx.onto hW170 (HNm169.out.st3 (by simp) _ _ _))
  clear HNm169
  clear hW170 HS169
  clear p2
  refine wpAnyH_done (by kernel_rfl) ?_ _
  go_wp2_with fail
  refine namedPost fun W171 hW171 => ?_
  have HS171 := hide (St.onto hW171 HS170.out)
  have HNm171 := hide (Nx.onto hW171 HNm170.out)
  clear HNm170
  clear hW171 HS170
  exact ended_pn rfl rfl rfl (HS171.out.get 1 rfl) (HS171.out.get 2 rfl) ⟨⟨_, _, _, _, _, _, _, _, rfl, HNm171.out.out, ⟨by omega, by omega, by omega⟩, by rw [cntOf, cntL_app, cntL_one, cntLeaf]; omega⟩, HS171.out.below⟩
end Go.Proofs.YtacgmmpdichlmaaGreat
