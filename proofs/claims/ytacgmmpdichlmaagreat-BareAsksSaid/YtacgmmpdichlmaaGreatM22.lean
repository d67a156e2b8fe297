/-
  The reference's ifs: conditions, and what follows. Its condition: the parser's items lie in memory.
-/
import Derived.Test.YtacgmmpdichlmaaGreatM04
namespace Go.Proofs.YtacgmmpdichlmaaGreat
open Go.RowKit
attribute [local go_sem ↓] Go.wp_at_zero Go.wp_at_succ

set_option maxRecDepth 4000 in
set_option maxHeartbeats 4000000 in
theorem ifs_k {l : List Tk} {a : Option Addr} {cap m : Nat} (K : Kn l a cap m) (hpipe : ∀ ⦃i : Nat⦄ ⦃bad : Bool⦄ ⦃w : World⦄, Its w a l → i ≤ l.length → leftP l.length i bad ≤ m → Calls Tryz.prog 72 #[.agg #[.slice a l.length cap, .int .i64 i, .bool bad]] w (PN l a cap w i bad 2)) {i : Nat} {bad : Bool} {w : World} (hi : Its w a l) (hat : i ≤ l.length) (hm : leftP l.length i bad ≤ m) : Calls Tryz.prog 120 #[.agg #[.slice a l.length cap, .int .i64 i, .bool bad]] w (PN l a cap w i bad 8) := by
  have HK := hide K
  have hlen := hi.2.1
  clear K
  have Hpipe := hide hpipe
  clear hpipe
  go_enter Tryz.func120, Tryz.ntmps120
  go_wp2_with fail
  refine namedWp fun W1 hW1 => ?_
  have HS1 := onS hW1 (St.nil w).va.va.va.va
  clear hW1
  go_loopw [] (fun wr => ∃ (x : Nat) (b : Bool) (y : Option Addr) (q c : Nat) (ds : List Nd), St w wr [(w.heap.size, 86, #[.slice a l.length cap, .int .i64 x, .bool b]), (w.heap.size + 1, 86, #[.slice none 0 0, .int .i64 0, .bool false]), (w.heap.size + 1 + 1, 24, #[.int .i64 0, .string ⟨#[]⟩, .slice none 0 0]), (w.heap.size + 1 + 1 + 1, 24, #[.int .i64 14, .string ⟨#[]⟩, .slice y q c])] ∧ Hx w wr [w.heap.size, w.heap.size + 1, w.heap.size + 1 + 1, w.heap.size + 1 + 1 + 1] (.slice y q c) ds ∧ (i ≤ x ∧ x ≤ l.length ∧ leftP l.length x b ≤ leftP l.length i bad ∧ cntL ds + 8 * i ≤ 8 * x)) (fun wr => leftAt l.length w.heap.size wr)
  case atStart => exact ⟨i, bad, none, 0, 0, [], HS1.out, Hx.nil _ _ _, by omega, by omega, by omega, by rw [cntL_nil]; omega⟩
  obtain ⟨x, b, y, q, c, ds, hS, hH, hx1, hx2, hx3, hx4⟩ := hrel
  have hMp := hS.get 0 rfl
  have HSr := hide hS
  have HRk := hide hH
  clear hS hH HS1
  have hcl := len_cntL ds
  have p0 := rD HSr
  go_wp2_with fail
  refine (Hpipe.out (hi.below HSr.out.below) (by omega) (by omega)).mono ?_
  rintro e w2 ⟨⟨i2, bad2, d2, k2, s2, y2, m2, c2, rfl, hn2, ⟨hi2, hl2, hp2⟩, hc2⟩, hb2⟩
  have HS2 := hide (HSr.out.call hb2)
  have HRk2 := hide (Px.made HRk.out hn2 hb2 HSr.out rfl)
  clear HRk
  have HNa2 := hide (show Nx w w2 [w.heap.size, w.heap.size + 1, w.heap.size + 1 + 1, w.heap.size + 1 + 1 + 1] _ _ from Nx.made hn2 HSr.out)
  clear hn2 hb2 HSr
  clear p0
  have p0 := rD HS2
  go_wp2_with fail
  have lv3 := lV HS2
  refine named fun W3 hW3 => ?_
  have HS3 := onS hW3 HS2.out.va.va
  have HNa3 := hide (Nx.onto hW3 ((HNa2.out.var (g := w2.heap.size) (by simp) _).var (g := w2.heap.size + 1) (by simp) _))
  have HRk3 := hide (Px.onto hW3 ((HRk2.out.var (g := w2.heap.size) (by simp) _).var (g := w2.heap.size + 1) (by simp) _))
  clear HNa2 HRk2
  clear hW3 HS2
  clear p0
  refine (need_any ⟨#[116, 104, 101, 110]⟩ (hi.below HS3.out.below) (by omega)).mono ?_
  rintro e w5 ⟨⟨i4, bad4, rfl, hr4⟩, hb5⟩
  have HS5 := hide (HS3.out.call hb5)
  have HNa5 := hide (HNa3.out.call hb5)
  clear HNa3
  have HRk5 := hide (HRk3.out.call hb5)
  clear HRk3
  clear hb5 HS3
  obtain ⟨hi4, hl4, hp4, hj4⟩ := hr4.out (by omega)
  clear hr4
  have p0 := rD HS5
  go_wp2_with fail
  refine (Hpipe.out (hi.below HS5.out.below) (by omega) (by omega)).mono ?_
  rintro e w6 ⟨⟨i6, bad6, d6, k6, s6, y6, m6, c6, rfl, hn6, ⟨hi6, hl6, hp6⟩, hc6⟩, hb6⟩
  have HS6 := hide (HS5.out.call hb6)
  have HNa6 := hide (HNa5.out.call hb6)
  clear HNa5
  have HRk6 := hide (Px.made HRk5.out hn6 hb6 HS5.out rfl)
  clear HRk5
  have HNb6 := hide (show Nx w w6 [w.heap.size, w.heap.size + 1, w.heap.size + 1 + 1, w.heap.size + 1 + 1 + 1, w2.heap.size, w2.heap.size + 1] _ _ from Nx.made hn6 HS5.out)
  clear hn6 hb6 HS5
  clear p0
  have p0 := rD HS6
  have lv7 := lV HS6
  have hSt7 : St w ((w6.alloc (.cells #[.slice a l.length cap, .int .i64 i6, .bool bad6] 86)).alloc (.cells #[.int .i64 k6, .string s6, .slice y6 m6 c6] 24)) [pe w.heap.size a l cap x b, pz (w.heap.size + 1), nz (w.heap.size + 1 + 1), ne (w.heap.size + 1 + 1 + 1) 14 ⟨#[]⟩ y q c, pe w2.heap.size a l cap i2 bad2, ne (w2.heap.size + 1) k2 s2 y2 m2 c2, pe w6.heap.size a l cap i6 bad6, ne (w6.heap.size + 1) k6 s6 y6 m6 c6] := ((HS6.out.var 86 _ (by simp)).var 24 _ (by simp))
  have hPx7 : Px w ((w6.alloc (.cells #[.slice a l.length cap, .int .i64 i6, .bool bad6] 86)).alloc (.cells #[.int .i64 k6, .string s6, .slice y6 m6 c6] 24)) [w.heap.size, w.heap.size + 1, w.heap.size + 1 + 1, w.heap.size + 1 + 1 + 1, w2.heap.size, w2.heap.size + 1, w6.heap.size, w6.heap.size + 1] (.slice y q c) ds [d2, d6] [.int .i64 k2, .string s2, .slice y2 m2 c2, .int .i64 k6, .string s6, .slice y6 m6 c6] := ((HRk6.out.var (g := w6.heap.size) (by simp) _).var (g := w6.heap.size + 1) (by simp) _)
  obtain ⟨v7, w7, hr7, hH7, hS7⟩ := hPx7.snoc hSt7 rfl (by simp only [List.length_cons, List.length_nil]; omega) (by simp)
  simp only [World.size_alloc, List.length_cons, List.length_nil, Nat.zero_add, Nat.reduceAdd] at hr7
  obtain ⟨y7, n7, c7, rfl⟩ := hH7.form'
  clear hSt7 hPx7 HS6 HRk6 HNa6 HNb6
  have HS7 := hide hS7
  have HRk7 := hide hH7
  clear hS7 hH7
  have rr0 := rD HS7
  go_wp2_with (at_builtin; refine wpList_append_run rfl _ _ (by rfl) (by rfl) (by rfl) (by rfl) hr7 ?_)
  clear hr7 p0
  refine named fun W8 hW8 => ?_
  have HS8 := onS hW8 (HS7.out.st 3 rfl 2 _)
  have HRk8 := hide (Px.onto hW8 (HRk7.out.st (by simp) _ _))
  clear HRk7
  clear hW8 HS7
  clear rr0
  refine (isWord_any ⟨#[101, 108, 105, 102]⟩ (hi.below HS8.out.below)).mono ?_
  rintro e w9 ⟨rfl, hb9⟩
  have HS9 := hide (HS8.out.call hb9)
  have HRk9 := hide (HRk8.out.call hb9)
  clear HRk8
  clear hb9 HS8
  have p0 := rD HS9
  cases hq10 : wordB (tokAt l i6 bad6) ⟨#[101, 108, 105, 102]⟩
  case false =>
   clear hq10
   go_wp2_with fail
   refine named fun W11 hW11 => ?_
   have HS11 := onS hW11 (HS9.out.st3 0 rfl _ _ _)
   have HRk11 := hide (Px.onto hW11 (HRk9.out.st3 (by simp) _ _ _))
   clear HRk9
   clear hW11 HS9
   clear p0
   refine (isWord_any ⟨#[101, 108, 115, 101]⟩ (hi.below HS11.out.below)).mono ?_
   rintro e w12 ⟨rfl, hb12⟩
   have HS12 := hide (HS11.out.call hb12)
   have HRk12 := hide (HRk11.out.call hb12)
   clear HRk11
   clear hb12 HS11
   have p0 := rD HS12
   cases hq13 : wordB (tokAt l i6 bad6) ⟨#[101, 108, 115, 101]⟩
   case false =>
    clear hq13
    go_wp2_with fail
    refine namedWp fun W15 hW15 => ?_
    have HS15 := hide (St.onto hW15 HS12.out)
    have HRk15 := hide (Px.onto hW15 HRk12.out)
    clear HRk12
    clear hW15 HS12
    clear p0
    have HNn14 := hide (show Nx w W15 [w.heap.size, w.heap.size + 1, w.heap.size + 1 + 1, w.heap.size + 1 + 1 + 1, w2.heap.size, w2.heap.size + 1, w6.heap.size, w6.heap.size + 1] (Nd.of 14 ⟨#[]⟩ (ds ++ [d2, d6])) (.agg #[.int .i64 14, .string ⟨#[]⟩, .slice y7 n7 c7]) from Px.node HRk15.out (by omega) (by decide))
    clear HRk15
    refine namedWp fun W16 hW16 => ?_
    have HS16 := hide (St.onto hW16 HS15.out)
    have HNn16 := hide (Nx.onto hW16 HNn14.out)
    clear HNn14
    clear hW16 HS15
    refine rgn HS16.out [0, 3] fun W17 hW17 => ?_
    have HS17 := hide (St.onto hW17 HS16.out.dr)
    have HNn17 := hide (Nx.onto hW17 HNn16.out.dr)
    clear HNn16
    clear hW17 HS16
    refine tK 0 (kS HS17.out [0, 3]) ?_
    refine tK 2 (kS HS17.out [0, 3]) ?_
    refine rY 1 fun K hK => ?_
    go_simp
    refine (need_any ⟨#[101, 110, 100]⟩ (hi.below HS17.out.below) (by omega)).mono ?_
    rintro e w19 ⟨⟨i18, bad18, rfl, hr18⟩, hb19⟩
    have HS19 := hide (HS17.out.call hb19)
    have HNn19 := hide (HNn17.out.call hb19)
    clear HNn17
    clear hb19 HS17
    obtain ⟨hi18, hl18, hp18, hj18⟩ := hr18.out (by omega)
    clear hr18
    go_simp
    refine onK hK (kS HS19.out [0, 3]) ?_
    clear hK K
    refine rY 3 fun K hK => ?_
    have p1 := rG HS19 1
    go_simp
    refine onW hK (kS (HS19.out.st3 1 rfl _ _ _) [0, 3]) fun W20 hW20 => ?_
    clear hK K
    have HS20 := onS hW20 (HS19.out.st3 1 rfl _ _ _)
    have HNn20 := hide (Nx.onto hW20 (HNn19.out.st3 (by simp) _ _ _))
    clear HNn19
    clear hW20 HS19
    clear p1
    refine rY 4 fun K hK => ?_
    have p2 := rG HS20 2
    go_simp
    refine onW hK (kS (HS20.out.st3 2 rfl _ _ _) [0, 3]) fun W21 hW21 => ?_
    clear hK K
    have HS21 := onS hW21 (HS20.out.st3 2 rfl _ _ _)
    have HNn21 := hide (Nx.onto hW21 (HNn20.out.st3 (by simp) _ _ _))
    clear HNn20
    clear hW21 HS20
    clear p2
    refine wpAnyH_done (by kernel_rfl) ?_ _
    go_wp2_with fail
    refine namedPost fun W22 hW22 => ?_
    have HS22 := hide (St.onto hW22 HS21.out)
    have HNn22 := hide (Nx.onto hW22 HNn21.out)
    clear HNn21
    clear hW22 HS21
    exact ended_pn rfl rfl rfl (HS22.out.get 1 rfl) (HS22.out.get 2 rfl) ⟨⟨_, _, _, _, _, _, _, _, rfl, HNn22.out.out, ⟨by omega, by omega, by omega⟩, by rw [cntOf, cntL_app, cntL_two]; omega⟩, HS22.out.below⟩
   obtain ⟨rfl, hlt23⟩ := wordB_in hq13
   clear hq13
   go_wp2_with fail
   refine (next_in (n := l.length) ⟨_, _, _, rfl⟩ (by omega) hlen).mono ?_
   rintro e w25 ⟨⟨j24, rfl, hj24, hl24, hp24⟩, hb25⟩
   have HS25 := hide (HS12.out.call hb25)
   have HRk25 := hide (HRk12.out.call hb25)
   clear HRk12
   clear hb25 HS12
   clear p0
   have p0 := rD HS25
   go_wp2_with fail
   refine (HK.out.pipe (hi.below HS25.out.below) (by omega) (by omega)).mono ?_
   rintro e w26 ⟨⟨i26, bad26, d26, k26, s26, y26, m26, c26, rfl, hn26, ⟨hi26, hl26, hp26⟩, hc26⟩, hb26⟩
   have HS26 := hide (HS25.out.call hb26)
   have HRk26 := hide (Px.made HRk25.out hn26 hb26 HS25.out rfl)
   clear HRk25
   have HNx26 := hide (show Nx w w26 [w.heap.size, w.heap.size + 1, w.heap.size + 1 + 1, w.heap.size + 1 + 1 + 1, w2.heap.size, w2.heap.size + 1, w6.heap.size, w6.heap.size + 1] _ _ from Nx.made hn26 HS25.out)
   clear hn26 hb26 HS25
   clear p0
   have p0 := rD HS26
   go_wp2_with (refine stopAt 45 ?_)
   have lv27 := lV HS26
   refine namedStop fun W27 hW27 => ?_
   have HS27 := onS hW27 (HS26.out.st3 0 rfl _ _ _).va.va
   have HNx27 := hide (Nx.onto hW27 (((HNx26.out.st3 (by simp) _ _ _).var (g := w26.heap.size) (by simp) _).var (g := w26.heap.size + 1) (by simp) _))
   have HRk27 := hide (Px.onto hW27 (((HRk26.out.st3 (by simp) _ _ _).var (g := w26.heap.size) (by simp) _).var (g := w26.heap.size + 1) (by simp) _))
   clear HNx26 HRk26
   clear hW27 HS26
   clear p0
   have p0 := rD HS27
   go_wp2_with (refine stopAt 46 ?_)
   refine namedStop fun W28 hW28 => ?_
   have HS28 := onS hW28 (HS27.out.st 3 rfl 1 _)
   have HNx28 := hide (Nx.onto hW28 (HNx27.out.st (by simp) _ _))
   have HRk28 := hide (Px.onto hW28 (HRk27.out.st (by simp) _ _))
   clear HNx27 HRk27
   clear hW28 HS27
   clear p0
   have p0 := rD HS28
   have lv29 := lV HS28
   have hSt29 : St w W28 [pe w.heap.size a l cap i26 bad26, pz (w.heap.size + 1), nz (w.heap.size + 1 + 1), ne (w.heap.size + 1 + 1 + 1) 14 ⟨#[101, 108, 115, 101]⟩ y7 n7 c7, pe w2.heap.size a l cap i2 bad2, ne (w2.heap.size + 1) k2 s2 y2 m2 c2, pe w6.heap.size a l cap i6 false, ne (w6.heap.size + 1) k6 s6 y6 m6 c6, pe w26.heap.size a l cap i26 bad26, ne (w26.heap.size + 1) k26 s26 y26 m26 c26] := HS28.out
   have hPx29 : Px w W28 [w.heap.size, w.heap.size + 1, w.heap.size + 1 + 1, w.heap.size + 1 + 1 + 1, w2.heap.size, w2.heap.size + 1, w6.heap.size, w6.heap.size + 1, w26.heap.size, w26.heap.size + 1] (.slice y7 n7 c7) (ds ++ [d2, d6]) [d26] [.int .i64 k26, .string s26, .slice y26 m26 c26] := HRk28.out
   obtain ⟨v29, w29, hr29, hH29, hS29⟩ := hPx29.snoc hSt29 rfl (by simp only [List.length_append, List.length_cons, List.length_nil]; omega) (by simp)
   simp only [List.length_cons, List.length_nil, Nat.zero_add] at hr29
   obtain ⟨y29, n29, c29, rfl⟩ := hH29.form'
   clear hSt29 hPx29 HS28 HRk28 HNx28
   have HS29 := hide hS29
   have HRk29 := hide hH29
   clear hS29 hH29
   have rr0 := rD HS29
   go_wp2_with (at_builtin; refine wpList_append_run rfl _ _ (by rfl) (by rfl) (by rfl) (by rfl) hr29 ?_)
   clear hr29 p0
   go_wp2_with fail
   refine namedWp fun W31 hW31 => ?_
   have HS31 := onS hW31 (HS29.out.st 3 rfl 2 _)
   have HRk31 := hide (Px.onto hW31 (HRk29.out.st (by simp) _ _))
   clear HRk29
   clear hW31 HS29
   clear rr0
   have HNn30 := hide (show Nx w W31 [w.heap.size, w.heap.size + 1, w.heap.size + 1 + 1, w.heap.size + 1 + 1 + 1, w2.heap.size, w2.heap.size + 1, w6.heap.size, w6.heap.size + 1, w26.heap.size, w26.heap.size + 1] (Nd.of 14 ⟨#[101, 108, 115, 101]⟩ ((ds ++ [d2, d6]) ++ [d26])) (.agg #[.int .i64 14, .string ⟨#[101, 108, 115, 101]⟩, .slice y29 n29 c29]) from Px.node HRk31.out (by omega) (by decide))
   clear HRk31
   refine namedWp fun W32 hW32 => ?_
   have HS32 := hide (St.onto hW32 HS31.out)
   have HNn32 := hide (Nx.onto hW32 HNn30.out)
   clear HNn30
   clear hW32 HS31
   refine rgn HS32.out [0, 3] fun W33 hW33 => ?_
   have HS33 := hide (St.onto hW33 HS32.out.dr)
   have HNn33 := hide (Nx.onto hW33 HNn32.out.dr)
   clear HNn32
   clear hW33 HS32
   refine tK 0 (kS HS33.out [0, 3]) ?_
   refine tK 2 (kS HS33.out [0, 3]) ?_
   refine rY 1 fun K hK => ?_
   go_simp
   refine (need_any ⟨#[101, 110, 100]⟩ (hi.below HS33.out.below) (by omega)).mono ?_
   rintro e w35 ⟨⟨i34, bad34, rfl, hr34⟩, hb35⟩
   have HS35 := hide (HS33.out.call hb35)
   have HNn35 := hide (HNn33.out.call hb35)
   clear HNn33
   clear hb35 HS33
   obtain ⟨hi34, hl34, hp34, hj34⟩ := hr34.out (by omega)
   clear hr34
   go_simp
   refine onK hK (kS HS35.out [0, 3]) ?_
   clear hK K
   refine rY 3 fun K hK => ?_
   have p1 := rG HS35 1
   go_simp
   refine onW hK (kS (HS35.out.st3 1 rfl _ _ _) [0, 3]) fun W36 hW36 => ?_
   clear hK K
   have HS36 := onS hW36 (HS35.out.st3 1 rfl _ _ _)
   have HNn36 := hide (Nx.onto hW36 (HNn35.out.st3 (by simp) _ _ _))
   clear HNn35
   clear hW36 HS35
   clear p1
   refine rY 4 fun K hK => ?_
   have p2 := rG HS36 2
   go_simp
   refine onW hK (kS (HS36.out.st3 2 rfl _ _ _) [0, 3]) fun W37 hW37 => ?_
   clear hK K
   have HS37 := onS hW37 (HS36.out.st3 2 rfl _ _ _)
   have HNn37 := hide (Nx.onto hW37 (HNn36.out.st3 (by simp) _ _ _))
   clear HNn36
   clear hW37 HS36
   clear p2
   refine wpAnyH_done (by kernel_rfl) ?_ _
   go_wp2_with fail
   refine namedPost fun W38 hW38 => ?_
   have HS38 := hide (St.onto hW38 HS37.out)
   have HNn38 := hide (Nx.onto hW38 HNn37.out)
   clear HNn37
   clear hW38 HS37
   exact ended_pn rfl rfl rfl (HS38.out.get 1 rfl) (HS38.out.get 2 rfl) ⟨⟨_, _, _, _, _, _, _, _, rfl, HNn38.out.out, ⟨by omega, by omega, by omega⟩, by rw [cntOf, cntL_app, cntL_app, cntL_two, cntL_one]; omega⟩, HS38.out.below⟩
  obtain ⟨rfl, hlt39⟩ := wordB_in hq10
  clear hq10
  go_wp2_with fail
  refine (next_in (n := l.length) ⟨_, _, _, rfl⟩ (by omega) hlen).mono ?_
  rintro e w41 ⟨⟨j40, rfl, hj40, hl40, hp40⟩, hb41⟩
  have HS41 := hide (HS9.out.call hb41)
  have HRk41 := hide (HRk9.out.call hb41)
  clear HRk9
  clear hb41 HS9
  clear p0
  have p0 := rD HS41
  go_wp2_with fail
  exact ⟨⟨j40, false, _, _, _, _, (HS41.out.st3 0 rfl _ _ _).cut 4 rfl, (HRk41.out.st3 (by simp) _ _ _).fewer (by simp), by omega, by omega, by omega, by rw [cntL_app, cntL_two]; omega⟩, by rw [leftAt_of ((HS41.out.st3 0 rfl _ _ _).get 0 rfl), leftAt_of hMp]; omega⟩
end Go.Proofs.YtacgmmpdichlmaaGreat
