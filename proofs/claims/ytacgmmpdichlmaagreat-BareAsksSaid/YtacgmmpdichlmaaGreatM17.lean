/-
  The reference's def: a definition. Its condition: the parser's items lie in memory.
-/
import Derived.Test.YtacgmmpdichlmaaGreatM04
namespace Go.Proofs.YtacgmmpdichlmaaGreat
open Go.RowKit
attribute [local go_sem ↓] Go.wp_at_zero Go.wp_at_succ

set_option maxRecDepth 4000 in
set_option maxHeartbeats 4000000 in
theorem def_k {l : List Tk} {a : Option Addr} {cap m : Nat} (K : Kn l a cap m) (top : Bool) {i : Nat}  {w : World} (hi : Its w a l) (hlt : i < l.length) (hm : leftP l.length i false ≤ m) : Calls Tryz.prog 71 #[.agg #[.slice a l.length cap, .int .i64 i, .bool false], .bool top] w (PN l a cap w i false 2) := by
  have HK := hide K
  have hlen := hi.2.1
  have hat : i ≤ l.length := by omega
  clear K
  go_enter Tryz.func71, Tryz.ntmps71
  go_wp2_with fail
  refine named fun W1 hW1 => ?_
  have HS1 := onS hW1 (St.nil w).va.va.va
  clear hW1
  refine (next_in (n := l.length) ⟨_, _, _, rfl⟩ (by omega) hlen).mono ?_
  rintro e w3 ⟨⟨j2, rfl, hj2, hl2, hp2⟩, hb3⟩
  have HS3 := hide (HS1.out.call hb3)
  clear hb3 HS1
  have p0 := rD HS3
  go_wp2_with fail
  refine (name_any (hi.below HS3.out.below) (by omega)).mono ?_
  rintro e w5 ⟨⟨i4, bad4, s4, rfl, hz4, hr4, hkk4⟩, hb5⟩
  have HS5 := hide (HS3.out.call hb5)
  clear hb5 HS3
  clear p0
  obtain ⟨hi4, hl4, hp4, hj4⟩ := hr4.out (by omega)
  clear hr4 hkk4
  have p0 := rD HS5
  go_wp2_with fail
  have lv6 := lV HS5
  refine named fun W6 hW6 => ?_
  have HS6 := onS hW6 HS5.out.va
  clear hW6 HS5
  clear p0
  refine (op_any ⟨#[40]⟩ (hi.below HS6.out.below)).mono ?_
  rintro e w7 ⟨rfl, hb7⟩
  have HS7 := hide (HS6.out.call hb7)
  clear hb7 HS6
  have p0 := rD HS7
  cases hq8 : opB (tokAt l i4 bad4) ⟨#[40]⟩
  case false =>
   clear hq8
   go_wp2_with fail
   have HRl9 := hide (show Px w w7 [w.heap.size, w.heap.size + 1, w.heap.size + 1 + 1, w5.heap.size] (.slice none 0 0) [] [] [] from Hx.nil _ _ _)
   refine (need_any ⟨#[58]⟩ (hi.below HS7.out.below) (by omega)).mono ?_
   rintro e w11 ⟨⟨i10, bad10, rfl, hr10⟩, hb11⟩
   have HS11 := hide (HS7.out.call hb11)
   have HRl11 := hide (HRl9.out.call hb11)
   clear HRl9
   clear hb11 HS7
   clear p0
   obtain ⟨hi10, hl10, hp10, hj10⟩ := hr10.out (by omega)
   clear hr10
   have p0 := rD HS11
   go_wp2_with fail
   refine (HK.out.pipe (hi.below HS11.out.below) (by omega) (by omega)).mono ?_
   rintro e w12 ⟨⟨i12, bad12, d12, k12, s12, y12, m12, c12, rfl, hn12, ⟨hi12, hl12, hp12⟩, hc12⟩, hb12⟩
   have HS12 := hide (HS11.out.call hb12)
   have HRl12 := hide (Px.made HRl11.out hn12 hb12 HS11.out rfl)
   clear HRl11
   have HNbody12 := hide (show Nx w w12 [w.heap.size, w.heap.size + 1, w.heap.size + 1 + 1, w5.heap.size] _ _ from Nx.made hn12 HS11.out)
   clear hn12 hb12 HS11
   clear p0
   have p0 := rD HS12
   go_wp2_with fail
   have lv13 := lV HS12
   refine named fun W13 hW13 => ?_
   have HS13 := onS hW13 HS12.out.va.va
   have HNbody13 := hide (Nx.onto hW13 ((HNbody12.out.var (g := w12.heap.size) (by simp) _).var (g := w12.heap.size + 1) (by simp) _))
   have HRl13 := hide (Px.onto hW13 ((HRl12.out.var (g := w12.heap.size) (by simp) _).var (g := w12.heap.size + 1) (by simp) _))
   clear HNbody12 HRl12
   clear hW13 HS12
   clear p0
   refine (need_any ⟨#[59]⟩ (hi.below HS13.out.below) (by omega)).mono ?_
   rintro e w15 ⟨⟨i14, bad14, rfl, hr14⟩, hb15⟩
   have HS15 := hide (HS13.out.call hb15)
   have HNbody15 := hide (HNbody13.out.call hb15)
   clear HNbody13
   have HRl15 := hide (HRl13.out.call hb15)
   clear HRl13
   clear hb15 HS13
   obtain ⟨hi14, hl14, hp14, hj14⟩ := hr14.out (by omega)
   clear hr14
   have p0 := rD HS15
   go_wp2_with (refine stopAt 43 ?_)
   refine namedStop fun W16 hW16 => ?_
   have HS16 := onS hW16 (HS15.out.st3 4 rfl _ _ _)
   have HNbody16 := hide (Nx.onto hW16 (HNbody15.out.st3 (by simp) _ _ _))
   have HRl16 := hide (Px.onto hW16 (HRl15.out.st3 (by simp) _ _ _))
   clear HNbody15 HRl15
   clear hW16 HS15
   clear p0
   have p0 := rD HS16
   cases top
   case false =>
    have lv17 := lV HS16
    have hSt17 : St w W16 [pe w.heap.size a l cap i false, pz (w.heap.size + 1), nz (w.heap.size + 1 + 1), pe w5.heap.size a l cap i4 bad4, pe w12.heap.size a l cap i14 bad14, ne (w12.heap.size + 1) k12 s12 y12 m12 c12] := HS16.out
    have hPx17 : Px w W16 [w.heap.size, w.heap.size + 1, w.heap.size + 1 + 1, w5.heap.size, w12.heap.size, w12.heap.size + 1] (.slice none 0 0) [] [d12] [.int .i64 k12, .string s12, .slice y12 m12 c12] := HRl16.out
    obtain ⟨v17, w17, hr17, hH17, hS17⟩ := hPx17.snoc hSt17 rfl (by simp only [List.length_cons, List.length_nil]; omega) (by simp)
    simp only [List.length_cons, List.length_nil, Nat.zero_add] at hr17
    obtain ⟨y17, n17, c17, rfl⟩ := hH17.form'
    clear hSt17 hPx17 HS16 HRl16 HNbody16
    have HS17 := hide hS17
    have HRl17 := hide hH17
    clear hS17 hH17
    have rr0 := rD HS17
    go_wp2_with (at_builtin; refine wpList_append_run rfl _ _ (by rfl) (by rfl) (by rfl) (by rfl) hr17 ?_)
    clear hr17 p0
    have lv18 := lV HS17
    refine named fun W18 hW18 => ?_
    have HS18 := onS hW18 HS17.out.va
    have HRl18 := hide (Px.onto hW18 (HRl17.out.var (g := w17.heap.size) (by simp) _))
    clear HRl17
    clear hW18 HS17
    clear rr0
    refine (HK.out.pipe (hi.below HS18.out.below) (by omega) (by omega)).mono ?_
    rintro e w19 ⟨⟨i19, bad19, d19, k19, s19, y19, m19, c19, rfl, hn19, ⟨hi19, hl19, hp19⟩, hc19⟩, hb19⟩
    have HS19 := hide (HS18.out.call hb19)
    have HRl19 := hide (Px.made HRl18.out hn19 hb19 HS18.out rfl)
    clear HRl18
    have HNn219 := hide (show Nx w w19 [w.heap.size, w.heap.size + 1, w.heap.size + 1 + 1, w5.heap.size, w12.heap.size, w12.heap.size + 1, w17.heap.size] _ _ from Nx.made hn19 HS18.out)
    clear hn19 hb19 HS18
    have p0 := rD HS19
    go_wp2_with (refine stopAt 87 ?_)
    have lv20 := lV HS19
    refine namedStop fun W20 hW20 => ?_
    have HS20 := onS hW20 (HS19.out.st3 4 rfl _ _ _).va.va
    have HNn220 := hide (Nx.onto hW20 (((HNn219.out.st3 (by simp) _ _ _).var (g := w19.heap.size) (by simp) _).var (g := w19.heap.size + 1) (by simp) _))
    have HRl20 := hide (Px.onto hW20 (((HRl19.out.st3 (by simp) _ _ _).var (g := w19.heap.size) (by simp) _).var (g := w19.heap.size + 1) (by simp) _))
    clear HNn219 HRl19
    clear hW20 HS19
    clear p0
    have p0 := rD HS20
    go_wp2_with (refine stopAt 89 ?_)
    refine namedStop fun W21 hW21 => ?_
    have HS21 := onS hW21 (HS20.out.st3 6 rfl _ _ _)
    have HNn221 := hide (Nx.onto hW21 (HNn220.out.st3 (by simp) _ _ _))
    have HRl21 := hide (Px.onto hW21 (HRl20.out.st3 (by simp) _ _ _))
    clear HNn220 HRl20
    clear hW21 HS20
    clear p0
    have p0 := rD HS21
    have lv22 := lV HS21
    have hSt22 : St w W21 [pe w.heap.size a l cap i false, pz (w.heap.size + 1), nz (w.heap.size + 1 + 1), pe w5.heap.size a l cap i4 bad4, pe w12.heap.size a l cap i19 bad19, ne (w12.heap.size + 1) k12 s12 y12 m12 c12, ne w17.heap.size k19 s19 y19 m19 c19, pe w19.heap.size a l cap i19 bad19, ne (w19.heap.size + 1) k19 s19 y19 m19 c19] := HS21.out
    have hPx22 : Px w W21 [w.heap.size, w.heap.size + 1, w.heap.size + 1 + 1, w5.heap.size, w12.heap.size, w12.heap.size + 1, w17.heap.size, w19.heap.size, w19.heap.size + 1] (.slice y17 n17 c17) ([] ++ [d12]) [d19] [.int .i64 k19, .string s19, .slice y19 m19 c19] := HRl21.out
    obtain ⟨v22, w22, hr22, hH22, hS22⟩ := hPx22.snoc hSt22 rfl (by simp only [List.length_append, List.length_cons, List.length_nil]; omega) (by simp)
    simp only [List.length_cons, List.length_nil, Nat.zero_add] at hr22
    obtain ⟨y22, n22, c22, rfl⟩ := hH22.form'
    clear hSt22 hPx22 HS21 HRl21 HNn221
    have HS22 := hide hS22
    have HRl22 := hide hH22
    clear hS22 hH22
    have rr0 := rD HS22
    go_wp2_with (at_builtin; refine wpList_append_run rfl _ _ (by rfl) (by rfl) (by rfl) (by rfl) hr22 ?_)
    clear hr22 p0
    refine namedPost fun W23 hW23 => ?_
    have HS23 := onS hW23 ((HS22.out.st3 1 rfl _ _ _).st3 2 rfl _ _ _)
    have HRl23 := hide (Px.onto hW23 ((HRl22.out.st3 (by simp) _ _ _).st3 (by simp) _ _ _))
    clear HRl22
    clear hW23 HS22
    clear rr0
    exact ended_pn rfl rfl rfl (HS23.out.get 1 rfl) (HS23.out.get 2 rfl) ⟨⟨_, _, _, _, _, _, _, _, rfl, (Px.node HRl23.out (by omega) (by simp only [maxLen]; omega)).out, ⟨by omega, by omega, by omega⟩, by simp only [cntOf, cntL_app, cntL_nil, cntL_one]; omega⟩, HS23.out.below⟩
   cases bad14
   case true =>
    have lv24 := lV HS16
    have hSt24 : St w W16 [pe w.heap.size a l cap i false, pz (w.heap.size + 1), nz (w.heap.size + 1 + 1), pe w5.heap.size a l cap i4 bad4, pe w12.heap.size a l cap i14 true, ne (w12.heap.size + 1) k12 s12 y12 m12 c12] := HS16.out
    have hPx24 : Px w W16 [w.heap.size, w.heap.size + 1, w.heap.size + 1 + 1, w5.heap.size, w12.heap.size, w12.heap.size + 1] (.slice none 0 0) [] [d12] [.int .i64 k12, .string s12, .slice y12 m12 c12] := HRl16.out
    obtain ⟨v24, w24, hr24, hH24, hS24⟩ := hPx24.snoc hSt24 rfl (by simp only [List.length_cons, List.length_nil]; omega) (by simp)
    simp only [List.length_cons, List.length_nil, Nat.zero_add] at hr24
    obtain ⟨y24, n24, c24, rfl⟩ := hH24.form'
    clear hSt24 hPx24 HS16 HRl16 HNbody16
    have HS24 := hide hS24
    have HRl24 := hide hH24
    clear hS24 hH24
    have rr0 := rD HS24
    go_wp2_with (at_builtin; refine wpList_append_run rfl _ _ (by rfl) (by rfl) (by rfl) (by rfl) hr24 ?_)
    clear hr24 p0
    have lv25 := lV HS24
    refine named fun W25 hW25 => ?_
    have HS25 := onS hW25 HS24.out.va
    have HRl25 := hide (Px.onto hW25 (HRl24.out.var (g := w24.heap.size) (by simp) _))
    clear HRl24
    clear hW25 HS24
    clear rr0
    refine (isWord_any ⟨#[100, 101, 102]⟩ (hi.below HS25.out.below)).mono ?_
    rintro e w26 ⟨rfl, hb26⟩
    have HS26 := hide (HS25.out.call hb26)
    have HRl26 := hide (HRl25.out.call hb26)
    clear HRl25
    clear hb26 HS25
    have p0 := rD HS26
    cases hq27 : wordB (tokAt l i14 true) ⟨#[100, 101, 102]⟩
    case true =>
     cases (wordB_in hq27).1
    clear hq27
    go_wp2_with fail
    refine (HK.out.pipe (hi.below HS26.out.below) (by omega) (by omega)).mono ?_
    rintro e w28 ⟨⟨i28, bad28, d28, k28, s28, y28, m28, c28, rfl, hn28, ⟨hi28, hl28, hp28⟩, hc28⟩, hb28⟩
    have HS28 := hide (HS26.out.call hb28)
    have HRl28 := hide (Px.made HRl26.out hn28 hb28 HS26.out rfl)
    clear HRl26
    have HNn228 := hide (show Nx w w28 [w.heap.size, w.heap.size + 1, w.heap.size + 1 + 1, w5.heap.size, w12.heap.size, w12.heap.size + 1, w24.heap.size] _ _ from Nx.made hn28 HS26.out)
    clear hn28 hb28 HS26
    clear p0
    have p0 := rD HS28
    go_wp2_with (refine stopAt 87 ?_)
    have lv29 := lV HS28
    refine namedStop fun W29 hW29 => ?_
    have HS29 := onS hW29 (HS28.out.st3 4 rfl _ _ _).va.va
    have HNn229 := hide (Nx.onto hW29 (((HNn228.out.st3 (by simp) _ _ _).var (g := w28.heap.size) (by simp) _).var (g := w28.heap.size + 1) (by simp) _))
    have HRl29 := hide (Px.onto hW29 (((HRl28.out.st3 (by simp) _ _ _).var (g := w28.heap.size) (by simp) _).var (g := w28.heap.size + 1) (by simp) _))
    clear HNn228 HRl28
    clear hW29 HS28
    clear p0
    have p0 := rD HS29
    go_wp2_with (refine stopAt 89 ?_)
    refine namedStop fun W30 hW30 => ?_
    have HS30 := onS hW30 (HS29.out.st3 6 rfl _ _ _)
    have HNn230 := hide (Nx.onto hW30 (HNn229.out.st3 (by simp) _ _ _))
    have HRl30 := hide (Px.onto hW30 (HRl29.out.st3 (by simp) _ _ _))
    clear HNn229 HRl29
    clear hW30 HS29
    clear p0
    have p0 := rD HS30
    have lv31 := lV HS30
    have hSt31 : St w W30 [pe w.heap.size a l cap i false, pz (w.heap.size + 1), nz (w.heap.size + 1 + 1), pe w5.heap.size a l cap i4 bad4, pe w12.heap.size a l cap i28 bad28, ne (w12.heap.size + 1) k12 s12 y12 m12 c12, ne w24.heap.size k28 s28 y28 m28 c28, pe w28.heap.size a l cap i28 bad28, ne (w28.heap.size + 1) k28 s28 y28 m28 c28] := HS30.out
    have hPx31 : Px w W30 [w.heap.size, w.heap.size + 1, w.heap.size + 1 + 1, w5.heap.size, w12.heap.size, w12.heap.size + 1, w24.heap.size, w28.heap.size, w28.heap.size + 1] (.slice y24 n24 c24) ([] ++ [d12]) [d28] [.int .i64 k28, .string s28, .slice y28 m28 c28] := HRl30.out
    obtain ⟨v31, w31, hr31, hH31, hS31⟩ := hPx31.snoc hSt31 rfl (by simp only [List.length_append, List.length_cons, List.length_nil]; omega) (by simp)
    simp only [List.length_cons, List.length_nil, Nat.zero_add] at hr31
    obtain ⟨y31, n31, c31, rfl⟩ := hH31.form'
    clear hSt31 hPx31 HS30 HRl30 HNn230
    have HS31 := hide hS31
    have HRl31 := hide hH31
    clear hS31 hH31
    have rr0 := rD HS31
    go_wp2_with (at_builtin; refine wpList_append_run rfl _ _ (by rfl) (by rfl) (by rfl) (by rfl) hr31 ?_)
    clear hr31 p0
    refine namedPost fun W32 hW32 => ?_
    have HS32 := onS hW32 ((HS31.out.st3 1 rfl _ _ _).st3 2 rfl _ _ _)
    have HRl32 := hide (Px.onto hW32 ((HRl31.out.st3 (by simp) _ _ _).st3 (by simp) _ _ _))
    clear HRl31
    clear hW32 HS31
    clear rr0
    exact ended_pn rfl rfl rfl (HS32.out.get 1 rfl) (HS32.out.get 2 rfl) ⟨⟨_, _, _, _, _, _, _, _, rfl, (Px.node HRl32.out (by omega) (by simp only [maxLen]; omega)).out, ⟨by omega, by omega, by omega⟩, by simp only [cntOf, cntL_app, cntL_nil, cntL_one]; omega⟩, HS32.out.below⟩
   by_cases hend : i14 = l.length
   ·
    have hee : ((i14 : Int) == (l.length : Int)) = true := by simp; omega
    clear hend
    have lv33 := lV HS16
    have hSt33 : St w W16 [pe w.heap.size a l cap i false, pz (w.heap.size + 1), nz (w.heap.size + 1 + 1), pe w5.heap.size a l cap i4 bad4, pe w12.heap.size a l cap i14 false, ne (w12.heap.size + 1) k12 s12 y12 m12 c12] := HS16.out
    have hPx33 : Px w W16 [w.heap.size, w.heap.size + 1, w.heap.size + 1 + 1, w5.heap.size, w12.heap.size, w12.heap.size + 1] (.slice none 0 0) [] [d12] [.int .i64 k12, .string s12, .slice y12 m12 c12] := HRl16.out
    obtain ⟨v33, w33, hr33, hH33, hS33⟩ := hPx33.snoc hSt33 rfl (by simp only [List.length_cons, List.length_nil]; omega) (by simp)
    simp only [List.length_cons, List.length_nil, Nat.zero_add] at hr33
    obtain ⟨y33, n33, c33, rfl⟩ := hH33.form'
    clear hSt33 hPx33 HS16 HRl16 HNbody16
    have HS33 := hide hS33
    have HRl33 := hide hH33
    clear hS33 hH33
    have rr0 := rD HS33
    go_wp2_with (first | (at_builtin; refine wpList_append_run rfl _ _ (by rfl) (by rfl) (by rfl) (by rfl) hr33 ?_) | (refine stopAt 62 ?_))
    clear hr33 p0
    have lv34 := lV HS33
    refine namedStop fun W34 hW34 => ?_
    have HS34 := onS hW34 HS33.out.va
    have HRl34 := hide (Px.onto hW34 (HRl33.out.var (g := w33.heap.size) (by simp) _))
    clear HRl33
    clear hW34 HS33
    clear rr0
    have p0 := rD HS34
    have HRl35 := hide (show Px w W34 [w.heap.size, w.heap.size + 1, w.heap.size + 1 + 1, w5.heap.size, w12.heap.size, w12.heap.size + 1, w33.heap.size] (.slice y33 n33 c33) ([] ++ [d12]) [.mk 0 ⟨#[]⟩ .nil] [.int .i64 0, .string ⟨#[]⟩, .slice none 0 0] from Px.leaf HRl34.out (by omega) (by decide))
    clear HRl34
    have lv36 := lV HS34
    have hSt36 : St w W34 [pe w.heap.size a l cap i false, pz (w.heap.size + 1), nz (w.heap.size + 1 + 1), pe w5.heap.size a l cap i4 bad4, pe w12.heap.size a l cap i14 false, ne (w12.heap.size + 1) k12 s12 y12 m12 c12, nz w33.heap.size] := HS34.out
    have hPx36 : Px w W34 [w.heap.size, w.heap.size + 1, w.heap.size + 1 + 1, w5.heap.size, w12.heap.size, w12.heap.size + 1, w33.heap.size] (.slice y33 n33 c33) ([] ++ [d12]) [.mk 0 ⟨#[]⟩ .nil] [.int .i64 0, .string ⟨#[]⟩, .slice none 0 0] := HRl35.out
    obtain ⟨v36, w36, hr36, hH36, hS36⟩ := hPx36.snoc hSt36 rfl (by simp only [List.length_append, List.length_cons, List.length_nil]; omega) (by simp)
    simp only [List.length_cons, List.length_nil, Nat.zero_add] at hr36
    obtain ⟨y36, n36, c36, rfl⟩ := hH36.form'
    clear hSt36 hPx36 HS34 HRl35
    have HS36 := hide hS36
    have HRl36 := hide hH36
    clear hS36 hH36
    have rr0 := rD HS36
    go_wp2_with (at_builtin; refine wpList_append_run rfl _ _ (by rfl) (by rfl) (by rfl) (by rfl) hr36 ?_)
    clear hr36 p0
    refine namedPost fun W37 hW37 => ?_
    have HS37 := onS hW37 ((HS36.out.st3 1 rfl _ _ _).st3 2 rfl _ _ _)
    have HRl37 := hide (Px.onto hW37 ((HRl36.out.st3 (by simp) _ _ _).st3 (by simp) _ _ _))
    clear HRl36
    clear hW37 HS36
    clear rr0
    exact ended_pn rfl rfl rfl (HS37.out.get 1 rfl) (HS37.out.get 2 rfl) ⟨⟨_, _, _, _, _, _, _, _, rfl, (Px.node HRl37.out (by omega) (by simp only [maxLen]; omega)).out, ⟨by omega, by omega, by omega⟩, by simp only [cntOf, cntL_app, cntL_nil, cntL_one, cntLeaf]; omega⟩, HS37.out.below⟩
   have hee : ((i14 : Int) == (l.length : Int)) = false := by simp; omega
   clear hend
   have lv38 := lV HS16
   have hSt38 : St w W16 [pe w.heap.size a l cap i false, pz (w.heap.size + 1), nz (w.heap.size + 1 + 1), pe w5.heap.size a l cap i4 bad4, pe w12.heap.size a l cap i14 false, ne (w12.heap.size + 1) k12 s12 y12 m12 c12] := HS16.out
   have hPx38 : Px w W16 [w.heap.size, w.heap.size + 1, w.heap.size + 1 + 1, w5.heap.size, w12.heap.size, w12.heap.size + 1] (.slice none 0 0) [] [d12] [.int .i64 k12, .string s12, .slice y12 m12 c12] := HRl16.out
   obtain ⟨v38, w38, hr38, hH38, hS38⟩ := hPx38.snoc hSt38 rfl (by simp only [List.length_cons, List.length_nil]; omega) (by simp)
   simp only [List.length_cons, List.length_nil, Nat.zero_add] at hr38
   obtain ⟨y38, n38, c38, rfl⟩ := hH38.form'
   clear hSt38 hPx38 HS16 HRl16 HNbody16
   have HS38 := hide hS38
   have HRl38 := hide hH38
   clear hS38 hH38
   have rr0 := rD HS38
   go_wp2_with (at_builtin; refine wpList_append_run rfl _ _ (by rfl) (by rfl) (by rfl) (by rfl) hr38 ?_)
   clear hr38 p0
   have lv39 := lV HS38
   refine named fun W39 hW39 => ?_
   have HS39 := onS hW39 HS38.out.va
   have HRl39 := hide (Px.onto hW39 (HRl38.out.var (g := w38.heap.size) (by simp) _))
   clear HRl38
   clear hW39 HS38
   clear rr0
   refine (isWord_any ⟨#[100, 101, 102]⟩ (hi.below HS39.out.below)).mono ?_
   rintro e w40 ⟨rfl, hb40⟩
   have HS40 := hide (HS39.out.call hb40)
   have HRl40 := hide (HRl39.out.call hb40)
   clear HRl39
   clear hb40 HS39
   have p0 := rD HS40
   cases hq41 : wordB (tokAt l i14 false) ⟨#[100, 101, 102]⟩
   case true =>
    have hlt42 := (wordB_in hq41).2
    clear hq41
    go_wp2_with fail
    refine (HK.out.def_ true (hi.below HS40.out.below) (by omega) (by omega)).mono ?_
    rintro e w43 ⟨⟨i43, bad43, d43, k43, s43, y43, m43, c43, rfl, hn43, ⟨hi43, hl43, hp43⟩, hc43⟩, hb43⟩
    have HS43 := hide (HS40.out.call hb43)
    have HRl43 := hide (Px.made HRl40.out hn43 hb43 HS40.out rfl)
    clear HRl40
    have HNn243 := hide (show Nx w w43 [w.heap.size, w.heap.size + 1, w.heap.size + 1 + 1, w5.heap.size, w12.heap.size, w12.heap.size + 1, w38.heap.size] _ _ from Nx.made hn43 HS40.out)
    clear hn43 hb43 HS40
    clear p0
    have p0 := rD HS43
    go_wp2_with (refine stopAt 80 ?_)
    have lv44 := lV HS43
    refine namedStop fun W44 hW44 => ?_
    have HS44 := onS hW44 (HS43.out.st3 4 rfl _ _ _).va.va
    have HNn244 := hide (Nx.onto hW44 (((HNn243.out.st3 (by simp) _ _ _).var (g := w43.heap.size) (by simp) _).var (g := w43.heap.size + 1) (by simp) _))
    have HRl44 := hide (Px.onto hW44 (((HRl43.out.st3 (by simp) _ _ _).var (g := w43.heap.size) (by simp) _).var (g := w43.heap.size + 1) (by simp) _))
    clear HNn243 HRl43
    clear hW44 HS43
    clear p0
    have p0 := rD HS44
    go_wp2_with (refine stopAt 89 ?_)
    refine namedStop fun W45 hW45 => ?_
    have HS45 := onS hW45 (HS44.out.st3 6 rfl _ _ _)
    have HNn245 := hide (Nx.onto hW45 (HNn244.out.st3 (by simp) _ _ _))
    have HRl45 := hide (Px.onto hW45 (HRl44.out.st3 (by simp) _ _ _))
    clear HNn244 HRl44
    clear hW45 HS44
    clear p0
    have p0 := rD HS45
    have lv46 := lV HS45
    have hSt46 : St w W45 [pe w.heap.size a l cap i false, pz (w.heap.size + 1), nz (w.heap.size + 1 + 1), pe w5.heap.size a l cap i4 bad4, pe w12.heap.size a l cap i43 bad43, ne (w12.heap.size + 1) k12 s12 y12 m12 c12, ne w38.heap.size k43 s43 y43 m43 c43, pe w43.heap.size a l cap i43 bad43, ne (w43.heap.size + 1) k43 s43 y43 m43 c43] := HS45.out
    have hPx46 : Px w W45 [w.heap.size, w.heap.size + 1, w.heap.size + 1 + 1, w5.heap.size, w12.heap.size, w12.heap.size + 1, w38.heap.size, w43.heap.size, w43.heap.size + 1] (.slice y38 n38 c38) ([] ++ [d12]) [d43] [.int .i64 k43, .string s43, .slice y43 m43 c43] := HRl45.out
    obtain ⟨v46, w46, hr46, hH46, hS46⟩ := hPx46.snoc hSt46 rfl (by simp only [List.length_append, List.length_cons, List.length_nil]; omega) (by simp)
    simp only [List.length_cons, List.length_nil, Nat.zero_add] at hr46
    obtain ⟨y46, n46, c46, rfl⟩ := hH46.form'
    clear hSt46 hPx46 HS45 HRl45 HNn245
    have HS46 := hide hS46
    have HRl46 := hide hH46
    clear hS46 hH46
    have rr0 := rD HS46
    go_wp2_with (at_builtin; refine wpList_append_run rfl _ _ (by rfl) (by rfl) (by rfl) (by rfl) hr46 ?_)
    clear hr46 p0
    refine namedPost fun W47 hW47 => ?_
    have HS47 := onS hW47 ((HS46.out.st3 1 rfl _ _ _).st3 2 rfl _ _ _)
    have HRl47 := hide (Px.onto hW47 ((HRl46.out.st3 (by simp) _ _ _).st3 (by simp) _ _ _))
    clear HRl46
    clear hW47 HS46
    clear rr0
    exact ended_pn rfl rfl rfl (HS47.out.get 1 rfl) (HS47.out.get 2 rfl) ⟨⟨_, _, _, _, _, _, _, _, rfl, (Px.node HRl47.out (by omega) (by simp only [maxLen]; omega)).out, ⟨by omega, by omega, by omega⟩, by simp only [cntOf, cntL_app, cntL_nil, cntL_one]; omega⟩, HS47.out.below⟩
   clear hq41
   go_wp2_with fail
   refine (HK.out.pipe (hi.below HS40.out.below) (by omega) (by omega)).mono ?_
   rintro e w48 ⟨⟨i48, bad48, d48, k48, s48, y48, m48, c48, rfl, hn48, ⟨hi48, hl48, hp48⟩, hc48⟩, hb48⟩
   have HS48 := hide (HS40.out.call hb48)
   have HRl48 := hide (Px.made HRl40.out hn48 hb48 HS40.out rfl)
   clear HRl40
   have HNn248 := hide (show Nx w w48 [w.heap.size, w.heap.size + 1, w.heap.size + 1 + 1, w5.heap.size, w12.heap.size, w12.heap.size + 1, w38.heap.size] _ _ from Nx.made hn48 HS40.out)
   clear hn48 hb48 HS40
   clear p0
   have p0 := rD HS48
   go_wp2_with (refine stopAt 87 ?_)
   have lv49 := lV HS48
   refine namedStop fun W49 hW49 => ?_
   have HS49 := onS hW49 (HS48.out.st3 4 rfl _ _ _).va.va
   have HNn249 := hide (Nx.onto hW49 (((HNn248.out.st3 (by simp) _ _ _).var (g := w48.heap.size) (by simp) _).var (g := w48.heap.size + 1) (by simp) _))
   have HRl49 := hide (Px.onto hW49 (((HRl48.out.st3 (by simp) _ _ _).var (g := w48.heap.size) (by simp) _).var (g := w48.heap.size + 1) (by simp) _))
   clear HNn248 HRl48
   clear hW49 HS48
   clear p0
   have p0 := rD HS49
   go_wp2_with (refine stopAt 89 ?_)
   refine namedStop fun W50 hW50 => ?_
   have HS50 := onS hW50 (HS49.out.st3 6 rfl _ _ _)
   have HNn250 := hide (Nx.onto hW50 (HNn249.out.st3 (by simp) _ _ _))
   have HRl50 := hide (Px.onto hW50 (HRl49.out.st3 (by simp) _ _ _))
   clear HNn249 HRl49
   clear hW50 HS49
   clear p0
   have p0 := rD HS50
   have lv51 := lV HS50
   have hSt51 : St w W50 [pe w.heap.size a l cap i false, pz (w.heap.size + 1), nz (w.heap.size + 1 + 1), pe w5.heap.size a l cap i4 bad4, pe w12.heap.size a l cap i48 bad48, ne (w12.heap.size + 1) k12 s12 y12 m12 c12, ne w38.heap.size k48 s48 y48 m48 c48, pe w48.heap.size a l cap i48 bad48, ne (w48.heap.size + 1) k48 s48 y48 m48 c48] := HS50.out
   have hPx51 : Px w W50 [w.heap.size, w.heap.size + 1, w.heap.size + 1 + 1, w5.heap.size, w12.heap.size, w12.heap.size + 1, w38.heap.size, w48.heap.size, w48.heap.size + 1] (.slice y38 n38 c38) ([] ++ [d12]) [d48] [.int .i64 k48, .string s48, .slice y48 m48 c48] := HRl50.out
   obtain ⟨v51, w51, hr51, hH51, hS51⟩ := hPx51.snoc hSt51 rfl (by simp only [List.length_append, List.length_cons, List.length_nil]; omega) (by simp)
   simp only [List.length_cons, List.length_nil, Nat.zero_add] at hr51
   obtain ⟨y51, n51, c51, rfl⟩ := hH51.form'
   clear hSt51 hPx51 HS50 HRl50 HNn250
   have HS51 := hide hS51
   have HRl51 := hide hH51
   clear hS51 hH51
   have rr0 := rD HS51
   go_wp2_with (at_builtin; refine wpList_append_run rfl _ _ (by rfl) (by rfl) (by rfl) (by rfl) hr51 ?_)
   clear hr51 p0
   refine namedPost fun W52 hW52 => ?_
   have HS52 := onS hW52 ((HS51.out.st3 1 rfl _ _ _).st3 2 rfl _ _ _)
   have HRl52 := hide (Px.onto hW52 ((HRl51.out.st3 (by simp) _ _ _).st3 (by simp) _ _ _))
   clear HRl51
   clear hW52 HS51
   clear rr0
   exact ended_pn rfl rfl rfl (HS52.out.get 1 rfl) (HS52.out.get 2 rfl) ⟨⟨_, _, _, _, _, _, _, _, rfl, (Px.node HRl52.out (by omega) (by simp only [maxLen]; omega)).out, ⟨by omega, by omega, by omega⟩, by simp only [cntOf, cntL_app, cntL_nil, cntL_one]; omega⟩, HS52.out.below⟩
  obtain ⟨rfl, hlt53⟩ := opB_in hq8
  clear hq8
  go_wp2_with fail
  refine (next_in (n := l.length) ⟨_, _, _, rfl⟩ (by omega) hlen).mono ?_
  rintro e w55 ⟨⟨j54, rfl, hj54, hl54, hp54⟩, hb55⟩
  have HS55 := hide (HS7.out.call hb55)
  clear hb55 HS7
  clear p0
  have p0 := rD HS55
  go_wp2_with fail
  refine (params_k (hi.below HS55.out.below) (by omega)).mono ?_
  rintro e w56 ⟨⟨i56, bad56, ds56, y56, m56, c56, rfl, hH56, ⟨hi56, hl56, hp56⟩, hc56⟩, hb56⟩
  have HS56 := hide (HS55.out.call hb56)
  have HRl56 := hide (show Px w w56 [w.heap.size, w.heap.size + 1, w.heap.size + 1 + 1, w5.heap.size] (.slice y56 m56 c56) ds56 [] [] from Hx.made hH56 HS55.out)
  have hcl56 := len_cntL ds56
  clear hH56 hb56 HS55
  clear p0
  have p0 := rD HS56
  go_wp2_with fail
  have lv57 := lV HS56
  refine named fun W57 hW57 => ?_
  have HS57 := onS hW57 (HS56.out.st3 3 rfl _ _ _).va
  have HRl57 := hide (Px.onto hW57 ((HRl56.out.st3 (by simp) _ _ _).var (g := w56.heap.size) (by simp) _))
  clear HRl56
  clear hW57 HS56
  clear p0
  refine (need_any ⟨#[58]⟩ (hi.below HS57.out.below) (by omega)).mono ?_
  rintro e w59 ⟨⟨i58, bad58, rfl, hr58⟩, hb59⟩
  have HS59 := hide (HS57.out.call hb59)
  have HRl59 := hide (HRl57.out.call hb59)
  clear HRl57
  clear hb59 HS57
  obtain ⟨hi58, hl58, hp58, hj58⟩ := hr58.out (by omega)
  clear hr58
  have p0 := rD HS59
  go_wp2_with fail
  refine (HK.out.pipe (hi.below HS59.out.below) (by omega) (by omega)).mono ?_
  rintro e w60 ⟨⟨i60, bad60, d60, k60, s60, y60, m60, c60, rfl, hn60, ⟨hi60, hl60, hp60⟩, hc60⟩, hb60⟩
  have HS60 := hide (HS59.out.call hb60)
  have HRl60 := hide (Px.made HRl59.out hn60 hb60 HS59.out rfl)
  clear HRl59
  have HNbody60 := hide (show Nx w w60 [w.heap.size, w.heap.size + 1, w.heap.size + 1 + 1, w5.heap.size, w56.heap.size] _ _ from Nx.made hn60 HS59.out)
  clear hn60 hb60 HS59
  clear p0
  have p0 := rD HS60
  go_wp2_with fail
  have lv61 := lV HS60
  refine named fun W61 hW61 => ?_
  have HS61 := onS hW61 HS60.out.va.va
  have HNbody61 := hide (Nx.onto hW61 ((HNbody60.out.var (g := w60.heap.size) (by simp) _).var (g := w60.heap.size + 1) (by simp) _))
  have HRl61 := hide (Px.onto hW61 ((HRl60.out.var (g := w60.heap.size) (by simp) _).var (g := w60.heap.size + 1) (by simp) _))
  clear HNbody60 HRl60
  clear hW61 HS60
  clear p0
  refine (need_any ⟨#[59]⟩ (hi.below HS61.out.below) (by omega)).mono ?_
  rintro e w63 ⟨⟨i62, bad62, rfl, hr62⟩, hb63⟩
  have HS63 := hide (HS61.out.call hb63)
  have HNbody63 := hide (HNbody61.out.call hb63)
  clear HNbody61
  have HRl63 := hide (HRl61.out.call hb63)
  clear HRl61
  clear hb63 HS61
  obtain ⟨hi62, hl62, hp62, hj62⟩ := hr62.out (by omega)
  clear hr62
  have p0 := rD HS63
  go_wp2_with (refine stopAt 43 ?_)
  refine namedStop fun W64 hW64 => ?_
  have HS64 := onS hW64 (HS63.out.st3 5 rfl _ _ _)
  have HNbody64 := hide (Nx.onto hW64 (HNbody63.out.st3 (by simp) _ _ _))
  have HRl64 := hide (Px.onto hW64 (HRl63.out.st3 (by simp) _ _ _))
  clear HNbody63 HRl63
  clear hW64 HS63
  clear p0
  have p0 := rD HS64
  cases top
  case false =>
   have lv65 := lV HS64
   have hSt65 : St w W64 [pe w.heap.size a l cap i false, pz (w.heap.size + 1), nz (w.heap.size + 1 + 1), pe w5.heap.size a l cap i56 bad56, pe w56.heap.size a l cap i56 bad56, pe w60.heap.size a l cap i62 bad62, ne (w60.heap.size + 1) k60 s60 y60 m60 c60] := HS64.out
   have hPx65 : Px w W64 [w.heap.size, w.heap.size + 1, w.heap.size + 1 + 1, w5.heap.size, w56.heap.size, w60.heap.size, w60.heap.size + 1] (.slice y56 m56 c56) ds56 [d60] [.int .i64 k60, .string s60, .slice y60 m60 c60] := HRl64.out
   obtain ⟨v65, w65, hr65, hH65, hS65⟩ := hPx65.snoc hSt65 rfl (by simp only [List.length_cons, List.length_nil]; omega) (by simp)
   simp only [List.length_cons, List.length_nil, Nat.zero_add] at hr65
   obtain ⟨y65, n65, c65, rfl⟩ := hH65.form'
   clear hSt65 hPx65 HS64 HRl64 HNbody64
   have HS65 := hide hS65
   have HRl65 := hide hH65
   clear hS65 hH65
   have rr0 := rD HS65
   go_wp2_with (at_builtin; refine wpList_append_run rfl _ _ (by rfl) (by rfl) (by rfl) (by rfl) hr65 ?_)
   clear hr65 p0
   have lv66 := lV HS65
   refine named fun W66 hW66 => ?_
   have HS66 := onS hW66 HS65.out.va
   have HRl66 := hide (Px.onto hW66 (HRl65.out.var (g := w65.heap.size) (by simp) _))
   clear HRl65
   clear hW66 HS65
   clear rr0
   refine (HK.out.pipe (hi.below HS66.out.below) (by omega) (by omega)).mono ?_
   rintro e w67 ⟨⟨i67, bad67, d67, k67, s67, y67, m67, c67, rfl, hn67, ⟨hi67, hl67, hp67⟩, hc67⟩, hb67⟩
   have HS67 := hide (HS66.out.call hb67)
   have HRl67 := hide (Px.made HRl66.out hn67 hb67 HS66.out rfl)
   clear HRl66
   have HNn267 := hide (show Nx w w67 [w.heap.size, w.heap.size + 1, w.heap.size + 1 + 1, w5.heap.size, w56.heap.size, w60.heap.size, w60.heap.size + 1, w65.heap.size] _ _ from Nx.made hn67 HS66.out)
   clear hn67 hb67 HS66
   have p0 := rD HS67
   go_wp2_with (refine stopAt 87 ?_)
   have lv68 := lV HS67
   refine namedStop fun W68 hW68 => ?_
   have HS68 := onS hW68 (HS67.out.st3 5 rfl _ _ _).va.va
   have HNn268 := hide (Nx.onto hW68 (((HNn267.out.st3 (by simp) _ _ _).var (g := w67.heap.size) (by simp) _).var (g := w67.heap.size + 1) (by simp) _))
   have HRl68 := hide (Px.onto hW68 (((HRl67.out.st3 (by simp) _ _ _).var (g := w67.heap.size) (by simp) _).var (g := w67.heap.size + 1) (by simp) _))
   clear HNn267 HRl67
   clear hW68 HS67
   clear p0
   have p0 := rD HS68
   go_wp2_with (refine stopAt 89 ?_)
   refine namedStop fun W69 hW69 => ?_
   have HS69 := onS hW69 (HS68.out.st3 7 rfl _ _ _)
   have HNn269 := hide (Nx.onto hW69 (HNn268.out.st3 (by simp) _ _ _))
   have HRl69 := hide (Px.onto hW69 (HRl68.out.st3 (by simp) _ _ _))
   clear HNn268 HRl68
   clear hW69 HS68
   clear p0
   have p0 := rD HS69
   have lv70 := lV HS69
   have hSt70 : St w W69 [pe w.heap.size a l cap i false, pz (w.heap.size + 1), nz (w.heap.size + 1 + 1), pe w5.heap.size a l cap i56 bad56, pe w56.heap.size a l cap i56 bad56, pe w60.heap.size a l cap i67 bad67, ne (w60.heap.size + 1) k60 s60 y60 m60 c60, ne w65.heap.size k67 s67 y67 m67 c67, pe w67.heap.size a l cap i67 bad67, ne (w67.heap.size + 1) k67 s67 y67 m67 c67] := HS69.out
   have hPx70 : Px w W69 [w.heap.size, w.heap.size + 1, w.heap.size + 1 + 1, w5.heap.size, w56.heap.size, w60.heap.size, w60.heap.size + 1, w65.heap.size, w67.heap.size, w67.heap.size + 1] (.slice y65 n65 c65) (ds56 ++ [d60]) [d67] [.int .i64 k67, .string s67, .slice y67 m67 c67] := HRl69.out
   obtain ⟨v70, w70, hr70, hH70, hS70⟩ := hPx70.snoc hSt70 rfl (by simp only [List.length_append, List.length_cons, List.length_nil]; omega) (by simp)
   simp only [List.length_cons, List.length_nil, Nat.zero_add] at hr70
   obtain ⟨y70, n70, c70, rfl⟩ := hH70.form'
   clear hSt70 hPx70 HS69 HRl69 HNn269
   have HS70 := hide hS70
   have HRl70 := hide hH70
   clear hS70 hH70
   have rr0 := rD HS70
   go_wp2_with (at_builtin; refine wpList_append_run rfl _ _ (by rfl) (by rfl) (by rfl) (by rfl) hr70 ?_)
   clear hr70 p0
   refine namedPost fun W71 hW71 => ?_
   have HS71 := onS hW71 ((HS70.out.st3 1 rfl _ _ _).st3 2 rfl _ _ _)
   have HRl71 := hide (Px.onto hW71 ((HRl70.out.st3 (by simp) _ _ _).st3 (by simp) _ _ _))
   clear HRl70
   clear hW71 HS70
   clear rr0
   exact ended_pn rfl rfl rfl (HS71.out.get 1 rfl) (HS71.out.get 2 rfl) ⟨⟨_, _, _, _, _, _, _, _, rfl, (Px.node HRl71.out (by omega) (by simp only [maxLen]; omega)).out, ⟨by omega, by omega, by omega⟩, by simp only [cntOf, cntL_app, cntL_one]; omega⟩, HS71.out.below⟩
  cases bad62
  case true =>
   have lv72 := lV HS64
   have hSt72 : St w W64 [pe w.heap.size a l cap i false, pz (w.heap.size + 1), nz (w.heap.size + 1 + 1), pe w5.heap.size a l cap i56 bad56, pe w56.heap.size a l cap i56 bad56, pe w60.heap.size a l cap i62 true, ne (w60.heap.size + 1) k60 s60 y60 m60 c60] := HS64.out
   have hPx72 : Px w W64 [w.heap.size, w.heap.size + 1, w.heap.size + 1 + 1, w5.heap.size, w56.heap.size, w60.heap.size, w60.heap.size + 1] (.slice y56 m56 c56) ds56 [d60] [.int .i64 k60, .string s60, .slice y60 m60 c60] := HRl64.out
   obtain ⟨v72, w72, hr72, hH72, hS72⟩ := hPx72.snoc hSt72 rfl (by simp only [List.length_cons, List.length_nil]; omega) (by simp)
   simp only [List.length_cons, List.length_nil, Nat.zero_add] at hr72
   obtain ⟨y72, n72, c72, rfl⟩ := hH72.form'
   clear hSt72 hPx72 HS64 HRl64 HNbody64
   have HS72 := hide hS72
   have HRl72 := hide hH72
   clear hS72 hH72
   have rr0 := rD HS72
   go_wp2_with (at_builtin; refine wpList_append_run rfl _ _ (by rfl) (by rfl) (by rfl) (by rfl) hr72 ?_)
   clear hr72 p0
   have lv73 := lV HS72
   refine named fun W73 hW73 => ?_
   have HS73 := onS hW73 HS72.out.va
   have HRl73 := hide (Px.onto hW73 (HRl72.out.var (g := w72.heap.size) (by simp) _))
   clear HRl72
   clear hW73 HS72
   clear rr0
   refine (isWord_any ⟨#[100, 101, 102]⟩ (hi.below HS73.out.below)).mono ?_
   rintro e w74 ⟨rfl, hb74⟩
   have HS74 := hide (HS73.out.call hb74)
   have HRl74 := hide (HRl73.out.call hb74)
   clear HRl73
   clear hb74 HS73
   have p0 := rD HS74
   cases hq75 : wordB (tokAt l i62 true) ⟨#[100, 101, 102]⟩
   case true =>
    cases (wordB_in hq75).1
   clear hq75
   go_wp2_with fail
   refine (HK.out.pipe (hi.below HS74.out.below) (by omega) (by omega)).mono ?_
   rintro e w76 ⟨⟨i76, bad76, d76, k76, s76, y76, m76, c76, rfl, hn76, ⟨hi76, hl76, hp76⟩, hc76⟩, hb76⟩
   have HS76 := hide (HS74.out.call hb76)
   have HRl76 := hide (Px.made HRl74.out hn76 hb76 HS74.out rfl)
   clear HRl74
   have HNn276 := hide (show Nx w w76 [w.heap.size, w.heap.size + 1, w.heap.size + 1 + 1, w5.heap.size, w56.heap.size, w60.heap.size, w60.heap.size + 1, w72.heap.size] _ _ from Nx.made hn76 HS74.out)
   clear hn76 hb76 HS74
   clear p0
   have p0 := rD HS76
   go_wp2_with (refine stopAt 87 ?_)
   have lv77 := lV HS76
   refine namedStop fun W77 hW77 => ?_
   have HS77 := onS hW77 (HS76.out.st3 5 rfl _ _ _).va.va
   have HNn277 := hide (Nx.onto hW77 (((HNn276.out.st3 (by simp) _ _ _).var (g := w76.heap.size) (by simp) _).var (g := w76.heap.size + 1) (by simp) _))
   have HRl77 := hide (Px.onto hW77 (((HRl76.out.st3 (by simp) _ _ _).var (g := w76.heap.size) (by simp) _).var (g := w76.heap.size + 1) (by simp) _))
   clear HNn276 HRl76
   clear hW77 HS76
   clear p0
   have p0 := rD HS77
   go_wp2_with (refine stopAt 89 ?_)
   refine namedStop fun W78 hW78 => ?_
   have HS78 := onS hW78 (HS77.out.st3 7 rfl _ _ _)
   have HNn278 := hide (Nx.onto hW78 (HNn277.out.st3 (by simp) _ _ _))
   have HRl78 := hide (Px.onto hW78 (HRl77.out.st3 (by simp) _ _ _))
   clear HNn277 HRl77
   clear hW78 HS77
   clear p0
   have p0 := rD HS78
   have lv79 := lV HS78
   have hSt79 : St w W78 [pe w.heap.size a l cap i false, pz (w.heap.size + 1), nz (w.heap.size + 1 + 1), pe w5.heap.size a l cap i56 bad56, pe w56.heap.size a l cap i56 bad56, pe w60.heap.size a l cap i76 bad76, ne (w60.heap.size + 1) k60 s60 y60 m60 c60, ne w72.heap.size k76 s76 y76 m76 c76, pe w76.heap.size a l cap i76 bad76, ne (w76.heap.size + 1) k76 s76 y76 m76 c76] := HS78.out
   have hPx79 : Px w W78 [w.heap.size, w.heap.size + 1, w.heap.size + 1 + 1, w5.heap.size, w56.heap.size, w60.heap.size, w60.heap.size + 1, w72.heap.size, w76.heap.size, w76.heap.size + 1] (.slice y72 n72 c72) (ds56 ++ [d60]) [d76] [.int .i64 k76, .string s76, .slice y76 m76 c76] := HRl78.out
   obtain ⟨v79, w79, hr79, hH79, hS79⟩ := hPx79.snoc hSt79 rfl (by simp only [List.length_append, List.length_cons, List.length_nil]; omega) (by simp)
   simp only [List.length_cons, List.length_nil, Nat.zero_add] at hr79
   obtain ⟨y79, n79, c79, rfl⟩ := hH79.form'
   clear hSt79 hPx79 HS78 HRl78 HNn278
   have HS79 := hide hS79
   have HRl79 := hide hH79
   clear hS79 hH79
   have rr0 := rD HS79
   go_wp2_with (at_builtin; refine wpList_append_run rfl _ _ (by rfl) (by rfl) (by rfl) (by rfl) hr79 ?_)
   clear hr79 p0
   refine namedPost fun W80 hW80 => ?_
   have HS80 := onS hW80 ((HS79.out.st3 1 rfl _ _ _).st3 2 rfl _ _ _)
   have HRl80 := hide (Px.onto hW80 ((HRl79.out.st3 (by simp) _ _ _).st3 (by simp) _ _ _))
   clear HRl79
   clear hW80 HS79
   clear rr0
   exact ended_pn rfl rfl rfl (HS80.out.get 1 rfl) (HS80.out.get 2 rfl) ⟨⟨_, _, _, _, _, _, _, _, rfl, (Px.node HRl80.out (by omega) (by simp only [maxLen]; omega)).out, ⟨by omega, by omega, by omega⟩, by simp only [cntOf, cntL_app, cntL_one]; omega⟩, HS80.out.below⟩
  by_cases hend : i62 = l.length
  ·
   have hee : ((i62 : Int) == (l.length : Int)) = true := by simp; omega
   clear hend
   have lv81 := lV HS64
   have hSt81 : St w W64 [pe w.heap.size a l cap i false, pz (w.heap.size + 1), nz (w.heap.size + 1 + 1), pe w5.heap.size a l cap i56 bad56, pe w56.heap.size a l cap i56 bad56, pe w60.heap.size a l cap i62 false, ne (w60.heap.size + 1) k60 s60 y60 m60 c60] := HS64.out
   have hPx81 : Px w W64 [w.heap.size, w.heap.size + 1, w.heap.size + 1 + 1, w5.heap.size, w56.heap.size, w60.heap.size, w60.heap.size + 1] (.slice y56 m56 c56) ds56 [d60] [.int .i64 k60, .string s60, .slice y60 m60 c60] := HRl64.out
   obtain ⟨v81, w81, hr81, hH81, hS81⟩ := hPx81.snoc hSt81 rfl (by simp only [List.length_cons, List.length_nil]; omega) (by simp)
   simp only [List.length_cons, List.length_nil, Nat.zero_add] at hr81
   obtain ⟨y81, n81, c81, rfl⟩ := hH81.form'
   clear hSt81 hPx81 HS64 HRl64 HNbody64
   have HS81 := hide hS81
   have HRl81 := hide hH81
   clear hS81 hH81
   have rr0 := rD HS81
   go_wp2_with (first | (at_builtin; refine wpList_append_run rfl _ _ (by rfl) (by rfl) (by rfl) (by rfl) hr81 ?_) | (refine stopAt 62 ?_))
   clear hr81 p0
   have lv82 := lV HS81
   refine namedStop fun W82 hW82 => ?_
   have HS82 := onS hW82 HS81.out.va
   have HRl82 := hide (Px.onto hW82 (HRl81.out.var (g := w81.heap.size) (by simp) _))
   clear HRl81
   clear hW82 HS81
   clear rr0
   have p0 := rD HS82
   have HRl83 := hide (show Px w W82 [w.heap.size, w.heap.size + 1, w.heap.size + 1 + 1, w5.heap.size, w56.heap.size, w60.heap.size, w60.heap.size + 1, w81.heap.size] (.slice y81 n81 c81) (ds56 ++ [d60]) [.mk 0 ⟨#[]⟩ .nil] [.int .i64 0, .string ⟨#[]⟩, .slice none 0 0] from Px.leaf HRl82.out (by omega) (by decide))
   clear HRl82
   have lv84 := lV HS82
   have hSt84 : St w W82 [pe w.heap.size a l cap i false, pz (w.heap.size + 1), nz (w.heap.size + 1 + 1), pe w5.heap.size a l cap i56 bad56, pe w56.heap.size a l cap i56 bad56, pe w60.heap.size a l cap i62 false, ne (w60.heap.size + 1) k60 s60 y60 m60 c60, nz w81.heap.size] := HS82.out
   have hPx84 : Px w W82 [w.heap.size, w.heap.size + 1, w.heap.size + 1 + 1, w5.heap.size, w56.heap.size, w60.heap.size, w60.heap.size + 1, w81.heap.size] (.slice y81 n81 c81) (ds56 ++ [d60]) [.mk 0 ⟨#[]⟩ .nil] [.int .i64 0, .string ⟨#[]⟩, .slice none 0 0] := HRl83.out
   obtain ⟨v84, w84, hr84, hH84, hS84⟩ := hPx84.snoc hSt84 rfl (by simp only [List.length_append, List.length_cons, List.length_nil]; omega) (by simp)
   simp only [List.length_cons, List.length_nil, Nat.zero_add] at hr84
   obtain ⟨y84, n84, c84, rfl⟩ := hH84.form'
   clear hSt84 hPx84 HS82 HRl83
   have HS84 := hide hS84
   have HRl84 := hide hH84
   clear hS84 hH84
   have rr0 := rD HS84
   go_wp2_with (at_builtin; refine wpList_append_run rfl _ _ (by rfl) (by rfl) (by rfl) (by rfl) hr84 ?_)
   clear hr84 p0
   refine namedPost fun W85 hW85 => ?_
   have HS85 := onS hW85 ((HS84.out.st3 1 rfl _ _ _).st3 2 rfl _ _ _)
   have HRl85 := hide (Px.onto hW85 ((HRl84.out.st3 (by simp) _ _ _).st3 (by simp) _ _ _))
   clear HRl84
   clear hW85 HS84
   clear rr0
   exact ended_pn rfl rfl rfl (HS85.out.get 1 rfl) (HS85.out.get 2 rfl) ⟨⟨_, _, _, _, _, _, _, _, rfl, (Px.node HRl85.out (by omega) (by simp only [maxLen]; omega)).out, ⟨by omega, by omega, by omega⟩, by simp only [cntOf, cntL_app, cntL_one, cntLeaf]; omega⟩, HS85.out.below⟩
  have hee : ((i62 : Int) == (l.length : Int)) = false := by simp; omega
  clear hend
  have lv86 := lV HS64
  have hSt86 : St w W64 [pe w.heap.size a l cap i false, pz (w.heap.size + 1), nz (w.heap.size + 1 + 1), pe w5.heap.size a l cap i56 bad56, pe w56.heap.size a l cap i56 bad56, pe w60.heap.size a l cap i62 false, ne (w60.heap.size + 1) k60 s60 y60 m60 c60] := HS64.out
  have hPx86 : Px w W64 [w.heap.size, w.heap.size + 1, w.heap.size + 1 + 1, w5.heap.size, w56.heap.size, w60.heap.size, w60.heap.size + 1] (.slice y56 m56 c56) ds56 [d60] [.int .i64 k60, .string s60, .slice y60 m60 c60] := HRl64.out
  obtain ⟨v86, w86, hr86, hH86, hS86⟩ := hPx86.snoc hSt86 rfl (by simp only [List.length_cons, List.length_nil]; omega) (by simp)
  simp only [List.length_cons, List.length_nil, Nat.zero_add] at hr86
  obtain ⟨y86, n86, c86, rfl⟩ := hH86.form'
  clear hSt86 hPx86 HS64 HRl64 HNbody64
  have HS86 := hide hS86
  have HRl86 := hide hH86
  clear hS86 hH86
  have rr0 := rD HS86
  go_wp2_with (at_builtin; refine wpList_append_run rfl _ _ (by rfl) (by rfl) (by rfl) (by rfl) hr86 ?_)
  clear hr86 p0
  have lv87 := lV HS86
  refine named fun W87 hW87 => ?_
  have HS87 := onS hW87 HS86.out.va
  have HRl87 := hide (Px.onto hW87 (HRl86.out.var (g := w86.heap.size) (by simp) _))
  clear HRl86
  clear hW87 HS86
  clear rr0
  refine (isWord_any ⟨#[100, 101, 102]⟩ (hi.below HS87.out.below)).mono ?_
  rintro e w88 ⟨rfl, hb88⟩
  have HS88 := hide (HS87.out.call hb88)
  have HRl88 := hide (HRl87.out.call hb88)
  clear HRl87
  clear hb88 HS87
  have p0 := rD HS88
  cases hq89 : wordB (tokAt l i62 false) ⟨#[100, 101, 102]⟩
  case true =>
   have hlt90 := (wordB_in hq89).2
   clear hq89
   go_wp2_with fail
   refine (HK.out.def_ true (hi.below HS88.out.below) (by omega) (by omega)).mono ?_
   rintro e w91 ⟨⟨i91, bad91, d91, k91, s91, y91, m91, c91, rfl, hn91, ⟨hi91, hl91, hp91⟩, hc91⟩, hb91⟩
   have HS91 := hide (HS88.out.call hb91)
   have HRl91 := hide (Px.made HRl88.out hn91 hb91 HS88.out rfl)
   clear HRl88
   have HNn291 := hide (show Nx w w91 [w.heap.size, w.heap.size + 1, w.heap.size + 1 + 1, w5.heap.size, w56.heap.size, w60.heap.size, w60.heap.size + 1, w86.heap.size] _ _ from Nx.made hn91 HS88.out)
   clear hn91 hb91 HS88
   clear p0
   have p0 := rD HS91
   go_wp2_with (refine stopAt 80 ?_)
   have lv92 := lV HS91
   refine namedStop fun W92 hW92 => ?_
   have HS92 := onS hW92 (HS91.out.st3 5 rfl _ _ _).va.va
   have HNn292 := hide (Nx.onto hW92 (((HNn291.out.st3 (by simp) _ _ _).var (g := w91.heap.size) (by simp) _).var (g := w91.heap.size + 1) (by simp) _))
   have HRl92 := hide (Px.onto hW92 (((HRl91.out.st3 (by simp) _ _ _).var (g := w91.heap.size) (by simp) _).var (g := w91.heap.size + 1) (by simp) _))
   clear HNn291 HRl91
   clear hW92 HS91
   clear p0
   have p0 := rD HS92
   go_wp2_with (refine stopAt 89 ?_)
   refine namedStop fun W93 hW93 => ?_
   have HS93 := onS hW93 (HS92.out.st3 7 rfl _ _ _)
   have HNn293 := hide (Nx.onto hW93 (HNn292.out.st3 (by simp) _ _ _))
   have HRl93 := hide (Px.onto hW93 (HRl92.out.st3 (by simp) _ _ _))
   clear HNn292 HRl92
   clear hW93 HS92
   clear p0
   have p0 := rD HS93
   have lv94 := lV HS93
   have hSt94 : St w W93 [pe w.heap.size a l cap i false, pz (w.heap.size + 1), nz (w.heap.size + 1 + 1), pe w5.heap.size a l cap i56 bad56, pe w56.heap.size a l cap i56 bad56, pe w60.heap.size a l cap i91 bad91, ne (w60.heap.size + 1) k60 s60 y60 m60 c60, ne w86.heap.size k91 s91 y91 m91 c91, pe w91.heap.size a l cap i91 bad91, ne (w91.heap.size + 1) k91 s91 y91 m91 c91] := HS93.out
   have hPx94 : Px w W93 [w.heap.size, w.heap.size + 1, w.heap.size + 1 + 1, w5.heap.size, w56.heap.size, w60.heap.size, w60.heap.size + 1, w86.heap.size, w91.heap.size, w91.heap.size + 1] (.slice y86 n86 c86) (ds56 ++ [d60]) [d91] [.int .i64 k91, .string s91, .slice y91 m91 c91] := HRl93.out
   obtain ⟨v94, w94, hr94, hH94, hS94⟩ := hPx94.snoc hSt94 rfl (by simp only [List.length_append, List.length_cons, List.length_nil]; omega) (by simp)
   simp only [List.length_cons, List.length_nil, Nat.zero_add] at hr94
   obtain ⟨y94, n94, c94, rfl⟩ := hH94.form'
   clear hSt94 hPx94 HS93 HRl93 HNn293
   have HS94 := hide hS94
   have HRl94 := hide hH94
   clear hS94 hH94
   have rr0 := rD HS94
   go_wp2_with (at_builtin; refine wpList_append_run rfl _ _ (by rfl) (by rfl) (by rfl) (by rfl) hr94 ?_)
   clear hr94 p0
   refine namedPost fun W95 hW95 => ?_
   have HS95 := onS hW95 ((HS94.out.st3 1 rfl _ _ _).st3 2 rfl _ _ _)
   have HRl95 := hide (Px.onto hW95 ((HRl94.out.st3 (by simp) _ _ _).st3 (by simp) _ _ _))
   clear HRl94
   clear hW95 HS94
   clear rr0
   exact ended_pn rfl rfl rfl (HS95.out.get 1 rfl) (HS95.out.get 2 rfl) ⟨⟨_, _, _, _, _, _, _, _, rfl, (Px.node HRl95.out (by omega) (by simp only [maxLen]; omega)).out, ⟨by omega, by omega, by omega⟩, by simp only [cntOf, cntL_app, cntL_one]; omega⟩, HS95.out.below⟩
  clear hq89
  go_wp2_with fail
  refine (HK.out.pipe (hi.below HS88.out.below) (by omega) (by omega)).mono ?_
  rintro e w96 ⟨⟨i96, bad96, d96, k96, s96, y96, m96, c96, rfl, hn96, ⟨hi96, hl96, hp96⟩, hc96⟩, hb96⟩
  have HS96 := hide (HS88.out.call hb96)
  have HRl96 := hide (Px.made HRl88.out hn96 hb96 HS88.out rfl)
  clear HRl88
  have HNn296 := hide (show Nx w w96 [w.heap.size, w.heap.size + 1, w.heap.size + 1 + 1, w5.heap.size, w56.heap.size, w60.heap.size, w60.heap.size + 1, w86.heap.size] _ _ from Nx.made hn96 HS88.out)
  clear hn96 hb96 HS88
  clear p0
  have p0 := rD HS96
  go_wp2_with (refine stopAt 87 ?_)
  have lv97 := lV HS96
  refine namedStop fun W97 hW97 => ?_
  have HS97 := onS hW97 (HS96.out.st3 5 rfl _ _ _).va.va
  have HNn297 := hide (Nx.onto hW97 (((HNn296.out.st3 (by simp) _ _ _).var (g := w96.heap.size) (by simp) _).var (g := w96.heap.size + 1) (by simp) _))
  have HRl97 := hide (Px.onto hW97 (((HRl96.out.st3 (by simp) _ _ _).var (g := w96.heap.size) (by simp) _).var (g := w96.heap.size + 1) (by simp) _))
  clear HNn296 HRl96
  clear hW97 HS96
  clear p0
  have p0 := rD HS97
  go_wp2_with (refine stopAt 89 ?_)
  refine namedStop fun W98 hW98 => ?_
  have HS98 := onS hW98 (HS97.out.st3 7 rfl _ _ _)
  have HNn298 := hide (Nx.onto hW98 (HNn297.out.st3 (by simp) _ _ _))
  have HRl98 := hide (Px.onto hW98 (HRl97.out.st3 (by simp) _ _ _))
  clear HNn297 HRl97
  clear hW98 HS97
  clear p0
  have p0 := rD HS98
  have lv99 := lV HS98
  have hSt99 : St w W98 [pe w.heap.size a l cap i false, pz (w.heap.size + 1), nz (w.heap.size + 1 + 1), pe w5.heap.size a l cap i56 bad56, pe w56.heap.size a l cap i56 bad56, pe w60.heap.size a l cap i96 bad96, ne (w60.heap.size + 1) k60 s60 y60 m60 c60, ne w86.heap.size k96 s96 y96 m96 c96, pe w96.heap.size a l cap i96 bad96, ne (w96.heap.size + 1) k96 s96 y96 m96 c96] := HS98.out
  have hPx99 : Px w W98 [w.heap.size, w.heap.size + 1, w.heap.size + 1 + 1, w5.heap.size, w56.heap.size, w60.heap.size, w60.heap.size + 1, w86.heap.size, w96.heap.size, w96.heap.size + 1] (.slice y86 n86 c86) (ds56 ++ [d60]) [d96] [.int .i64 k96, .string s96, .slice y96 m96 c96] := HRl98.out
  obtain ⟨v99, w99, hr99, hH99, hS99⟩ := hPx99.snoc hSt99 rfl (by simp only [List.length_append, List.length_cons, List.length_nil]; omega) (by simp)
  simp only [List.length_cons, List.length_nil, Nat.zero_add] at hr99
  obtain ⟨y99, n99, c99, rfl⟩ := hH99.form'
  clear hSt99 hPx99 HS98 HRl98 HNn298
  have HS99 := hide hS99
  have HRl99 := hide hH99
  clear hS99 hH99
  have rr0 := rD HS99
  go_wp2_with (at_builtin; refine wpList_append_run rfl _ _ (by rfl) (by rfl) (by rfl) (by rfl) hr99 ?_)
  clear hr99 p0
  refine namedPost fun W100 hW100 => ?_
  have HS100 := onS hW100 ((HS99.out.st3 1 rfl _ _ _).st3 2 rfl _ _ _)
  have HRl100 := hide (Px.onto hW100 ((HRl99.out.st3 (by simp) _ _ _).st3 (by simp) _ _ _))
  clear HRl99
  clear hW100 HS99
  clear rr0
  exact ended_pn rfl rfl rfl (HS100.out.get 1 rfl) (HS100.out.get 2 rfl) ⟨⟨_, _, _, _, _, _, _, _, rfl, (Px.node HRl100.out (by omega) (by simp only [maxLen]; omega)).out, ⟨by omega, by omega, by omega⟩, by simp only [cntOf, cntL_app, cntL_one]; omega⟩, HS100.out.below⟩
end Go.Proofs.YtacgmmpdichlmaaGreat
