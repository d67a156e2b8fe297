/-
  The reference's pair, keypat: a key, and a value, or a pattern. Its condition: the parser's items lie in memory.
-/
import Derived.Test.YtacgmmpdichlmaaGreatM04
namespace Go.Proofs.YtacgmmpdichlmaaGreat
open Go.RowKit
attribute [local go_sem ↓] Go.wp_at_zero Go.wp_at_succ

set_option maxRecDepth 4000 in
set_option maxHeartbeats 4000000 in
theorem pair_k {l : List Tk} {a : Option Addr} {cap m : Nat} (K : Kn l a cap m) (hvalue : ∀ ⦃i : Nat⦄ ⦃bad : Bool⦄ ⦃w : World⦄, Its w a l → i ≤ l.length → leftP l.length i bad ≤ m → Calls Tryz.prog 122 #[.agg #[.slice a l.length cap, .int .i64 i, .bool bad]] w (PN l a cap w i bad 2)) (hkey : ∀ ⦃i : Nat⦄ ⦃bad : Bool⦄ ⦃w : World⦄ (pat : Bool), Its w a l → i ≤ l.length → leftP l.length i bad ≤ m → Calls Tryz.prog 118 #[.agg #[.slice a l.length cap, .int .i64 i, .bool bad], .bool pat] w (KN l a cap w i bad 2)) {i : Nat} {bad : Bool} {w : World} (hi : Its w a l) (hat : i ≤ l.length) (hm : leftP l.length i bad ≤ m) : Calls Tryz.prog 119 #[.agg #[.slice a l.length cap, .int .i64 i, .bool bad]] w (PN l a cap w i bad 6) := by
  have HK := hide K
  have hlen := hi.2.1
  clear K
  have Hvalue := hide hvalue
  clear hvalue
  have Hkey := hide hkey
  clear hkey
  go_enter Tryz.func119, Tryz.ntmps119
  go_wp2_with fail
  refine named fun W1 hW1 => ?_
  have HS1 := onS hW1 (St.nil w).va.va.va
  clear hW1
  refine (Hkey.out false (hi.below HS1.out.below) (by omega) (by omega)).mono ?_
  rintro e w2 ⟨⟨i2, bad2, d2, k2, s2, y2, m2, c2, mu, rfl, hn2, ⟨hi2, hl2, hp2⟩, hc2⟩, hb2⟩
  have HS2 := hide (HS1.out.call hb2)
  have HNk2 := hide (show Nx w w2 [w.heap.size, w.heap.size + 1, w.heap.size + 1 + 1] _ _ from Nx.made hn2 HS1.out)
  clear hn2 hb2 HS1
  have p0 := rD HS2
  go_wp2_with (refine stopAt 16 ?_)
  have lv3 := lV HS2
  refine namedStop fun W3 hW3 => ?_
  have HS3 := onS hW3 HS2.out.va.va
  have HNk3 := hide (Nx.onto hW3 ((HNk2.out.var (g := w2.heap.size) (by simp) _).var (g := w2.heap.size + 1) (by simp) _))
  clear HNk2
  clear hW3 HS2
  clear p0
  have p0 := rD HS3
  go_wp2_with (refine stopAt 18 ?_)
  refine namedStop fun W4 hW4 => ?_
  have HS4 := hide (St.onto hW4 (HS3.out.al _))
  have HRh4 := hide (show Px w W4 [w.heap.size, w.heap.size + 1, w.heap.size + 1 + 1, w2.heap.size, w2.heap.size + 1] (.slice (some ⟨W3.heap.size, 0, none⟩) 1 1) [d2] [] [] from hW4 ▸ (Hx.lit (Rx.cons HNk3.out (Rx.nil)) HS3.out rfl (by simp)))
  clear HNk3
  clear hW4 HS3
  clear p0
  have p0 := rD HS4
  cases mu
  case true =>
   go_wp2_with fail
   have lv5 := lV HS4
   refine named fun W5 hW5 => ?_
   have HS5 := onS hW5 HS4.out.va
   have HRh5 := hide (Px.onto hW5 (HRh4.out.var (g := W4.heap.size) (by simp) _))
   clear HRh4
   clear hW5 HS4
   clear p0
   refine (need_any ⟨#[58]⟩ (hi.below HS5.out.below) (by omega)).mono ?_
   rintro e w7 ⟨⟨i6, bad6, rfl, hr6⟩, hb7⟩
   have HS7 := hide (HS5.out.call hb7)
   have HRh7 := hide (HRh5.out.call hb7)
   clear HRh5
   clear hb7 HS5
   obtain ⟨hi6, hl6, hp6, hj6⟩ := hr6.out (by omega)
   clear hr6
   have p0 := rD HS7
   go_wp2_with fail
   refine (Hvalue.out (hi.below HS7.out.below) (by omega) (by omega)).mono ?_
   rintro e w8 ⟨⟨i8, bad8, d8, k8, s8, y8, m8, c8, rfl, hn8, ⟨hi8, hl8, hp8⟩, hc8⟩, hb8⟩
   have HS8 := hide (HS7.out.call hb8)
   have HRh8 := hide (Px.made HRh7.out hn8 hb8 HS7.out rfl)
   clear HRh7
   have HNx8 := hide (show Nx w w8 [w.heap.size, w.heap.size + 1, w.heap.size + 1 + 1, w2.heap.size, w2.heap.size + 1, W4.heap.size] _ _ from Nx.made hn8 HS7.out)
   clear hn8 hb8 HS7
   clear p0
   have p0 := rD HS8
   have lv9 := lV HS8
   have hSt9 : St w ((w8.alloc (.cells #[.slice a l.length cap, .int .i64 i8, .bool bad8] 86)).alloc (.cells #[.int .i64 k8, .string s8, .slice y8 m8 c8] 24)) [pe w.heap.size a l cap i bad, pz (w.heap.size + 1), nz (w.heap.size + 1 + 1), pe w2.heap.size a l cap i2 bad2, ne (w2.heap.size + 1) k2 s2 y2 m2 c2, ne W4.heap.size 11 ⟨#[]⟩ (some ⟨W3.heap.size, 0, none⟩) 1 1, pe w8.heap.size a l cap i8 bad8, ne (w8.heap.size + 1) k8 s8 y8 m8 c8] := ((HS8.out.var 86 _ (by simp)).var 24 _ (by simp))
   have hPx9 : Px w ((w8.alloc (.cells #[.slice a l.length cap, .int .i64 i8, .bool bad8] 86)).alloc (.cells #[.int .i64 k8, .string s8, .slice y8 m8 c8] 24)) [w.heap.size, w.heap.size + 1, w.heap.size + 1 + 1, w2.heap.size, w2.heap.size + 1, W4.heap.size, w8.heap.size, w8.heap.size + 1] (.slice (some ⟨W3.heap.size, 0, none⟩) 1 1) [d2] [d8] [.int .i64 k8, .string s8, .slice y8 m8 c8] := ((HRh8.out.var (g := w8.heap.size) (by simp) _).var (g := w8.heap.size + 1) (by simp) _)
   obtain ⟨v9, w9, hr9, hH9, hS9⟩ := hPx9.snoc hSt9 rfl (by simp only [List.length_cons, List.length_nil]; omega) (by simp)
   simp only [World.size_alloc, List.length_cons, List.length_nil, Nat.zero_add] at hr9
   obtain ⟨y9, n9, c9, rfl⟩ := hH9.form'
   clear hSt9 hPx9 HS8 HRh8 HNx8
   have HS9 := hide hS9
   have HRh9 := hide hH9
   clear hS9 hH9
   have rr0 := rD HS9
   go_wp2_with (at_builtin; refine wpList_append_run rfl _ _ (by rfl) (by rfl) (by rfl) (by rfl) hr9 ?_)
   clear hr9 p0
   go_wp2_with fail
   refine namedWp fun W11 hW11 => ?_
   have HS11 := onS hW11 (HS9.out.st 5 rfl 2 _)
   have HRh11 := hide (Px.onto hW11 (HRh9.out.st (by simp) _ _))
   clear HRh9
   clear hW11 HS9
   clear rr0
   have HNn10 := hide (show Nx w W11 [w.heap.size, w.heap.size + 1, w.heap.size + 1 + 1, w2.heap.size, w2.heap.size + 1, W4.heap.size, w8.heap.size, w8.heap.size + 1] (Nd.of 11 ⟨#[]⟩ ([d2] ++ [d8])) (.agg #[.int .i64 11, .string ⟨#[]⟩, .slice y9 n9 c9]) from Px.node HRh11.out (by omega) (by decide))
   clear HRh11
   refine namedWp fun W12 hW12 => ?_
   have HS12 := hide (St.onto hW12 HS11.out)
   have HNn12 := hide (Nx.onto hW12 HNn10.out)
   clear HNn10
   clear hW12 HS11
   refine rgn HS12.out [6, 5] fun W13 hW13 => ?_
   have HS13 := hide (St.onto hW13 HS12.out.dr)
   have HNn13 := hide (Nx.onto hW13 HNn12.out.dr)
   clear HNn12
   clear hW13 HS12
   refine tK 0 (kS HS13.out [6, 5]) ?_
   refine tK 1 (kS HS13.out [6, 5]) ?_
   refine rY 2 fun K hK => ?_
   have p1 := rG HS13 1
   go_simp
   refine onW hK (kS (HS13.out.st3 1 rfl _ _ _) [6, 5]) fun W14 hW14 => ?_
   clear hK K
   have HS14 := onS hW14 (HS13.out.st3 1 rfl _ _ _)
   have HNn14 := hide (Nx.onto hW14 (HNn13.out.st3 (by simp) _ _ _))
   clear HNn13
   clear hW14 HS13
   clear p1
   refine rY 3 fun K hK => ?_
   have p2 := rG HS14 2
   go_simp
   refine onW hK (kS (HS14.out.st3 2 rfl _ _ _) [6, 5]) fun W15 hW15 => ?_
   clear hK K
   have HS15 := onS hW15 (HS14.out.st3 2 rfl _ _ _)
   have HNn15 := hide (Nx.onto hW15 (HNn14.out.st3 (by simp) _ _ _))
   clear HNn14
   clear hW15 HS14
   clear p2
   refine wpAnyH_done (by kernel_rfl) ?_ _
   go_wp2_with fail
   refine namedPost fun W16 hW16 => ?_
   have HS16 := hide (St.onto hW16 HS15.out)
   have HNn16 := hide (Nx.onto hW16 HNn15.out)
   clear HNn15
   clear hW16 HS15
   exact ended_pn rfl rfl rfl (HS16.out.get 1 rfl) (HS16.out.get 2 rfl) ⟨⟨_, _, _, _, _, _, _, _, rfl, HNn16.out.out, ⟨by omega, by omega, by omega⟩, by rw [cntOf, cntL_app, cntL_one, cntL_one]; omega⟩, HS16.out.below⟩
  go_wp2_with fail
  have lv17 := lV HS4
  refine named fun W17 hW17 => ?_
  have HS17 := onS hW17 HS4.out.va
  have HRh17 := hide (Px.onto hW17 (HRh4.out.var (g := W4.heap.size) (by simp) _))
  clear HRh4
  clear hW17 HS4
  clear p0
  refine (op_any ⟨#[58]⟩ (hi.below HS17.out.below)).mono ?_
  rintro e w18 ⟨rfl, hb18⟩
  have HS18 := hide (HS17.out.call hb18)
  have HRh18 := hide (HRh17.out.call hb18)
  clear HRh17
  clear hb18 HS17
  have p0 := rD HS18
  cases hq19 : opB (tokAt l i2 bad2) ⟨#[58]⟩
  case true =>
   clear hq19
   go_wp2_with fail
   refine (need_any ⟨#[58]⟩ (hi.below HS18.out.below) (by omega)).mono ?_
   rintro e w21 ⟨⟨i20, bad20, rfl, hr20⟩, hb21⟩
   have HS21 := hide (HS18.out.call hb21)
   have HRh21 := hide (HRh18.out.call hb21)
   clear HRh18
   clear hb21 HS18
   clear p0
   obtain ⟨hi20, hl20, hp20, hj20⟩ := hr20.out (by omega)
   clear hr20
   have p0 := rD HS21
   go_wp2_with fail
   refine (Hvalue.out (hi.below HS21.out.below) (by omega) (by omega)).mono ?_
   rintro e w22 ⟨⟨i22, bad22, d22, k22, s22, y22, m22, c22, rfl, hn22, ⟨hi22, hl22, hp22⟩, hc22⟩, hb22⟩
   have HS22 := hide (HS21.out.call hb22)
   have HRh22 := hide (Px.made HRh21.out hn22 hb22 HS21.out rfl)
   clear HRh21
   have HNx22 := hide (show Nx w w22 [w.heap.size, w.heap.size + 1, w.heap.size + 1 + 1, w2.heap.size, w2.heap.size + 1, W4.heap.size] _ _ from Nx.made hn22 HS21.out)
   clear hn22 hb22 HS21
   clear p0
   have p0 := rD HS22
   have lv23 := lV HS22
   have hSt23 : St w ((w22.alloc (.cells #[.slice a l.length cap, .int .i64 i22, .bool bad22] 86)).alloc (.cells #[.int .i64 k22, .string s22, .slice y22 m22 c22] 24)) [pe w.heap.size a l cap i bad, pz (w.heap.size + 1), nz (w.heap.size + 1 + 1), pe w2.heap.size a l cap i2 bad2, ne (w2.heap.size + 1) k2 s2 y2 m2 c2, ne W4.heap.size 11 ⟨#[]⟩ (some ⟨W3.heap.size, 0, none⟩) 1 1, pe w22.heap.size a l cap i22 bad22, ne (w22.heap.size + 1) k22 s22 y22 m22 c22] := ((HS22.out.var 86 _ (by simp)).var 24 _ (by simp))
   have hPx23 : Px w ((w22.alloc (.cells #[.slice a l.length cap, .int .i64 i22, .bool bad22] 86)).alloc (.cells #[.int .i64 k22, .string s22, .slice y22 m22 c22] 24)) [w.heap.size, w.heap.size + 1, w.heap.size + 1 + 1, w2.heap.size, w2.heap.size + 1, W4.heap.size, w22.heap.size, w22.heap.size + 1] (.slice (some ⟨W3.heap.size, 0, none⟩) 1 1) [d2] [d22] [.int .i64 k22, .string s22, .slice y22 m22 c22] := ((HRh22.out.var (g := w22.heap.size) (by simp) _).var (g := w22.heap.size + 1) (by simp) _)
   obtain ⟨v23, w23, hr23, hH23, hS23⟩ := hPx23.snoc hSt23 rfl (by simp only [List.length_cons, List.length_nil]; omega) (by simp)
   simp only [World.size_alloc, List.length_cons, List.length_nil, Nat.zero_add] at hr23
   obtain ⟨y23, n23, c23, rfl⟩ := hH23.form'
   clear hSt23 hPx23 HS22 HRh22 HNx22
   have HS23 := hide hS23
   have HRh23 := hide hH23
   clear hS23 hH23
   have rr0 := rD HS23
   go_wp2_with (at_builtin; refine wpList_append_run rfl _ _ (by rfl) (by rfl) (by rfl) (by rfl) hr23 ?_)
   clear hr23 p0
   go_wp2_with fail
   refine namedWp fun W25 hW25 => ?_
   have HS25 := onS hW25 (HS23.out.st 5 rfl 2 _)
   have HRh25 := hide (Px.onto hW25 (HRh23.out.st (by simp) _ _))
   clear HRh23
   clear hW25 HS23
   clear rr0
   have HNn24 := hide (show Nx w W25 [w.heap.size, w.heap.size + 1, w.heap.size + 1 + 1, w2.heap.size, w2.heap.size + 1, W4.heap.size, w22.heap.size, w22.heap.size + 1] (Nd.of 11 ⟨#[]⟩ ([d2] ++ [d22])) (.agg #[.int .i64 11, .string ⟨#[]⟩, .slice y23 n23 c23]) from Px.node HRh25.out (by omega) (by decide))
   clear HRh25
   refine namedWp fun W26 hW26 => ?_
   have HS26 := hide (St.onto hW26 HS25.out)
   have HNn26 := hide (Nx.onto hW26 HNn24.out)
   clear HNn24
   clear hW26 HS25
   refine rgn HS26.out [6, 5] fun W27 hW27 => ?_
   have HS27 := hide (St.onto hW27 HS26.out.dr)
   have HNn27 := hide (Nx.onto hW27 HNn26.out.dr)
   clear HNn26
   clear hW27 HS26
   refine tK 0 (kS HS27.out [6, 5]) ?_
   refine tK 1 (kS HS27.out [6, 5]) ?_
   refine rY 2 fun K hK => ?_
   have p1 := rG HS27 1
   go_simp
   refine onW hK (kS (HS27.out.st3 1 rfl _ _ _) [6, 5]) fun W28 hW28 => ?_
   clear hK K
   have HS28 := onS hW28 (HS27.out.st3 1 rfl _ _ _)
   have HNn28 := hide (Nx.onto hW28 (HNn27.out.st3 (by simp) _ _ _))
   clear HNn27
   clear hW28 HS27
   clear p1
   refine rY 3 fun K hK => ?_
   have p2 := rG HS28 2
   go_simp
   refine onW hK (kS (HS28.out.st3 2 rfl _ _ _) [6, 5]) fun W29 hW29 => ?_
   clear hK K
   have HS29 := onS hW29 (HS28.out.st3 2 rfl _ _ _)
   have HNn29 := hide (Nx.onto hW29 (HNn28.out.st3 (by simp) _ _ _))
   clear HNn28
   clear hW29 HS28
   clear p2
   refine wpAnyH_done (by kernel_rfl) ?_ _
   go_wp2_with fail
   refine namedPost fun W30 hW30 => ?_
   have HS30 := hide (St.onto hW30 HS29.out)
   have HNn30 := hide (Nx.onto hW30 HNn29.out)
   clear HNn29
   clear hW30 HS29
   exact ended_pn rfl rfl rfl (HS30.out.get 1 rfl) (HS30.out.get 2 rfl) ⟨⟨_, _, _, _, _, _, _, _, rfl, HNn30.out.out, ⟨by omega, by omega, by omega⟩, by rw [cntOf, cntL_app, cntL_one, cntL_one]; omega⟩, HS30.out.below⟩
  clear hq19
  go_wp2_with fail
  refine namedWp fun W32 hW32 => ?_
  have HS32 := hide (St.onto hW32 HS18.out)
  have HRh32 := hide (Px.onto hW32 HRh18.out)
  clear HRh18
  clear hW32 HS18
  clear p0
  have HNn31 := hide (show Nx w W32 [w.heap.size, w.heap.size + 1, w.heap.size + 1 + 1, w2.heap.size, w2.heap.size + 1, W4.heap.size] (Nd.of 11 ⟨#[]⟩ [d2]) (.agg #[.int .i64 11, .string ⟨#[]⟩, .slice (some ⟨W3.heap.size, 0, none⟩) 1 1]) from Px.node HRh32.out (by omega) (by decide))
  clear HRh32
  refine namedWp fun W33 hW33 => ?_
  have HS33 := hide (St.onto hW33 HS32.out)
  have HNn33 := hide (Nx.onto hW33 HNn31.out)
  clear HNn31
  clear hW33 HS32
  refine rgn HS33.out [3, 5] fun W34 hW34 => ?_
  have HS34 := hide (St.onto hW34 HS33.out.dr)
  have HNn34 := hide (Nx.onto hW34 HNn33.out.dr)
  clear HNn33
  clear hW34 HS33
  refine tK 0 (kS HS34.out [3, 5]) ?_
  refine tK 1 (kS HS34.out [3, 5]) ?_
  refine rY 2 fun K hK => ?_
  have p1 := rG HS34 1
  go_simp
  refine onW hK (kS (HS34.out.st3 1 rfl _ _ _) [3, 5]) fun W35 hW35 => ?_
  clear hK K
  have HS35 := onS hW35 (HS34.out.st3 1 rfl _ _ _)
  have HNn35 := hide (Nx.onto hW35 (HNn34.out.st3 (by simp) _ _ _))
  clear HNn34
  clear hW35 HS34
  clear p1
  refine rY 3 fun K hK => ?_
  have p2 := rG HS35 2
  go_simp
  refine onW hK (kS (HS35.out.st3 2 rfl _ _ _) [3, 5]) fun W36 hW36 => ?_
  clear hK K
  have HS36 := onS hW36 (HS35.out.st3 2 rfl _ _ _)
  have HNn36 := hide (Nx.onto hW36 (HNn35.out.st3 (by simp) _ _ _))
  clear HNn35
  clear hW36 HS35
  clear p2
  refine wpAnyH_done (by kernel_rfl) ?_ _
  go_wp2_with fail
  refine namedPost fun W37 hW37 => ?_
  have HS37 := hide (St.onto hW37 HS36.out)
  have HNn37 := hide (Nx.onto hW37 HNn36.out)
  clear HNn36
  clear hW37 HS36
  exact ended_pn rfl rfl rfl (HS37.out.get 1 rfl) (HS37.out.get 2 rfl) ⟨⟨_, _, _, _, _, _, _, _, rfl, HNn37.out.out, ⟨by omega, by omega, by omega⟩, by rw [cntOf, cntL_one]; omega⟩, HS37.out.below⟩
set_option maxRecDepth 4000 in
set_option maxHeartbeats 4000000 in
theorem keypat_k {l : List Tk} {a : Option Addr} {cap m : Nat} (K : Kn l a cap m) (hpattern : ∀ ⦃i : Nat⦄ ⦃bad : Bool⦄ ⦃w : World⦄, Its w a l → i ≤ l.length → leftP l.length i bad ≤ m → Calls Tryz.prog 109 #[.agg #[.slice a l.length cap, .int .i64 i, .bool bad]] w (PN l a cap w i bad 2)) (hkey : ∀ ⦃i : Nat⦄ ⦃bad : Bool⦄ ⦃w : World⦄ (pat : Bool), Its w a l → i ≤ l.length → leftP l.length i bad ≤ m → Calls Tryz.prog 118 #[.agg #[.slice a l.length cap, .int .i64 i, .bool bad], .bool pat] w (KN l a cap w i bad 2)) {i : Nat} {bad : Bool} {w : World} (hi : Its w a l) (hat : i ≤ l.length) (hm : leftP l.length i bad ≤ m) : Calls Tryz.prog 114 #[.agg #[.slice a l.length cap, .int .i64 i, .bool bad]] w (PN l a cap w i bad 6) := by
  have HK := hide K
  have hlen := hi.2.1
  clear K
  have Hpattern := hide hpattern
  clear hpattern
  have Hkey := hide hkey
  clear hkey
  go_enter Tryz.func114, Tryz.ntmps114
  go_wp2_with fail
  refine named fun W1 hW1 => ?_
  have HS1 := onS hW1 (St.nil w).va.va.va
  clear hW1
  refine (Hkey.out true (hi.below HS1.out.below) (by omega) (by omega)).mono ?_
  rintro e w2 ⟨⟨i2, bad2, d2, k2, s2, y2, m2, c2, mu, rfl, hn2, ⟨hi2, hl2, hp2⟩, hc2⟩, hb2⟩
  have HS2 := hide (HS1.out.call hb2)
  have HNk2 := hide (show Nx w w2 [w.heap.size, w.heap.size + 1, w.heap.size + 1 + 1] _ _ from Nx.made hn2 HS1.out)
  clear hn2 hb2 HS1
  have p0 := rD HS2
  go_wp2_with (refine stopAt 16 ?_)
  have lv3 := lV HS2
  refine namedStop fun W3 hW3 => ?_
  have HS3 := onS hW3 HS2.out.va.va
  have HNk3 := hide (Nx.onto hW3 ((HNk2.out.var (g := w2.heap.size) (by simp) _).var (g := w2.heap.size + 1) (by simp) _))
  clear HNk2
  clear hW3 HS2
  clear p0
  have p0 := rD HS3
  go_wp2_with (refine stopAt 18 ?_)
  refine namedStop fun W4 hW4 => ?_
  have HS4 := hide (St.onto hW4 (HS3.out.al _))
  have HRh4 := hide (show Px w W4 [w.heap.size, w.heap.size + 1, w.heap.size + 1 + 1, w2.heap.size, w2.heap.size + 1] (.slice (some ⟨W3.heap.size, 0, none⟩) 1 1) [d2] [] [] from hW4 ▸ (Hx.lit (Rx.cons HNk3.out (Rx.nil)) HS3.out rfl (by simp)))
  clear HNk3
  clear hW4 HS3
  clear p0
  have p0 := rD HS4
  cases mu
  case true =>
   go_wp2_with fail
   have lv5 := lV HS4
   refine named fun W5 hW5 => ?_
   have HS5 := onS hW5 HS4.out.va
   have HRh5 := hide (Px.onto hW5 (HRh4.out.var (g := W4.heap.size) (by simp) _))
   clear HRh4
   clear hW5 HS4
   clear p0
   refine (need_any ⟨#[58]⟩ (hi.below HS5.out.below) (by omega)).mono ?_
   rintro e w7 ⟨⟨i6, bad6, rfl, hr6⟩, hb7⟩
   have HS7 := hide (HS5.out.call hb7)
   have HRh7 := hide (HRh5.out.call hb7)
   clear HRh5
   clear hb7 HS5
   obtain ⟨hi6, hl6, hp6, hj6⟩ := hr6.out (by omega)
   clear hr6
   have p0 := rD HS7
   go_wp2_with fail
   refine (Hpattern.out (hi.below HS7.out.below) (by omega) (by omega)).mono ?_
   rintro e w8 ⟨⟨i8, bad8, d8, k8, s8, y8, m8, c8, rfl, hn8, ⟨hi8, hl8, hp8⟩, hc8⟩, hb8⟩
   have HS8 := hide (HS7.out.call hb8)
   have HRh8 := hide (Px.made HRh7.out hn8 hb8 HS7.out rfl)
   clear HRh7
   have HNx8 := hide (show Nx w w8 [w.heap.size, w.heap.size + 1, w.heap.size + 1 + 1, w2.heap.size, w2.heap.size + 1, W4.heap.size] _ _ from Nx.made hn8 HS7.out)
   clear hn8 hb8 HS7
   clear p0
   have p0 := rD HS8
   have lv9 := lV HS8
   have hSt9 : St w ((w8.alloc (.cells #[.slice a l.length cap, .int .i64 i8, .bool bad8] 86)).alloc (.cells #[.int .i64 k8, .string s8, .slice y8 m8 c8] 24)) [pe w.heap.size a l cap i bad, pz (w.heap.size + 1), nz (w.heap.size + 1 + 1), pe w2.heap.size a l cap i2 bad2, ne (w2.heap.size + 1) k2 s2 y2 m2 c2, ne W4.heap.size 37 ⟨#[]⟩ (some ⟨W3.heap.size, 0, none⟩) 1 1, pe w8.heap.size a l cap i8 bad8, ne (w8.heap.size + 1) k8 s8 y8 m8 c8] := ((HS8.out.var 86 _ (by simp)).var 24 _ (by simp))
   have hPx9 : Px w ((w8.alloc (.cells #[.slice a l.length cap, .int .i64 i8, .bool bad8] 86)).alloc (.cells #[.int .i64 k8, .string s8, .slice y8 m8 c8] 24)) [w.heap.size, w.heap.size + 1, w.heap.size + 1 + 1, w2.heap.size, w2.heap.size + 1, W4.heap.size, w8.heap.size, w8.heap.size + 1] (.slice (some ⟨W3.heap.size, 0, none⟩) 1 1) [d2] [d8] [.int .i64 k8, .string s8, .slice y8 m8 c8] := ((HRh8.out.var (g := w8.heap.size) (by simp) _).var (g := w8.heap.size + 1) (by simp) _)
   obtain ⟨v9, w9, hr9, hH9, hS9⟩ := hPx9.snoc hSt9 rfl (by simp only [List.length_cons, List.length_nil]; omega) (by simp)
   simp only [World.size_alloc, List.length_cons, List.length_nil, Nat.zero_add] at hr9
   obtain ⟨y9, n9, c9, rfl⟩ := hH9.form'
   clear hSt9 hPx9 HS8 HRh8 HNx8
   have HS9 := hide hS9
   have HRh9 := hide hH9
   clear hS9 hH9
   have rr0 := rD HS9
   go_wp2_with (at_builtin; refine wpList_append_run rfl _ _ (by rfl) (by rfl) (by rfl) (by rfl) hr9 ?_)
   clear hr9 p0
   go_wp2_with fail
   refine namedWp fun W11 hW11 => ?_
   have HS11 := onS hW11 (HS9.out.st 5 rfl 2 _)
   have HRh11 := hide (Px.onto hW11 (HRh9.out.st (by simp) _ _))
   clear HRh9
   clear hW11 HS9
   clear rr0
   have HNn10 := hide (show Nx w W11 [w.heap.size, w.heap.size + 1, w.heap.size + 1 + 1, w2.heap.size, w2.heap.size + 1, W4.heap.size, w8.heap.size, w8.heap.size + 1] (Nd.of 37 ⟨#[]⟩ ([d2] ++ [d8])) (.agg #[.int .i64 37, .string ⟨#[]⟩, .slice y9 n9 c9]) from Px.node HRh11.out (by omega) (by decide))
   clear HRh11
   refine namedWp fun W12 hW12 => ?_
   have HS12 := hide (St.onto hW12 HS11.out)
   have HNn12 := hide (Nx.onto hW12 HNn10.out)
   clear HNn10
   clear hW12 HS11
   refine rgn HS12.out [6, 5] fun W13 hW13 => ?_
   have HS13 := hide (St.onto hW13 HS12.out.dr)
   have HNn13 := hide (Nx.onto hW13 HNn12.out.dr)
   clear HNn12
   clear hW13 HS12
   refine tK 0 (kS HS13.out [6, 5]) ?_
   refine tK 1 (kS HS13.out [6, 5]) ?_
   refine rY 2 fun K hK => ?_
   have p1 := rG HS13 1
   go_simp
   refine onW hK (kS (HS13.out.st3 1 rfl _ _ _) [6, 5]) fun W14 hW14 => ?_
   clear hK K
   have HS14 := onS hW14 (HS13.out.st3 1 rfl _ _ _)
   have HNn14 := hide (Nx.onto hW14 (HNn13.out.st3 (by simp) _ _ _))
   clear HNn13
   clear hW14 HS13
   clear p1
   refine rY 3 fun K hK => ?_
   have p2 := rG HS14 2
   go_simp
   refine onW hK (kS (HS14.out.st3 2 rfl _ _ _) [6, 5]) fun W15 hW15 => ?_
   clear hK K
   have HS15 := onS hW15 (HS14.out.st3 2 rfl _ _ _)
   have HNn15 := hide (Nx.onto hW15 (HNn14.out.st3 (by simp) _ _ _))
   clear HNn14
   clear hW15 HS14
   clear p2
   refine wpAnyH_done (by kernel_rfl) ?_ _
   go_wp2_with fail
   refine namedPost fun W16 hW16 => ?_
   have HS16 := hide (St.onto hW16 HS15.out)
   have HNn16 := hide (Nx.onto hW16 HNn15.out)
   clear HNn15
   clear hW16 HS15
   exact ended_pn rfl rfl rfl (HS16.out.get 1 rfl) (HS16.out.get 2 rfl) ⟨⟨_, _, _, _, _, _, _, _, rfl, HNn16.out.out, ⟨by omega, by omega, by omega⟩, by rw [cntOf, cntL_app, cntL_one, cntL_one]; omega⟩, HS16.out.below⟩
  go_wp2_with fail
  have lv17 := lV HS4
  refine named fun W17 hW17 => ?_
  have HS17 := onS hW17 HS4.out.va
  have HRh17 := hide (Px.onto hW17 (HRh4.out.var (g := W4.heap.size) (by simp) _))
  clear HRh4
  clear hW17 HS4
  clear p0
  refine (op_any ⟨#[58]⟩ (hi.below HS17.out.below)).mono ?_
  rintro e w18 ⟨rfl, hb18⟩
  have HS18 := hide (HS17.out.call hb18)
  have HRh18 := hide (HRh17.out.call hb18)
  clear HRh17
  clear hb18 HS17
  have p0 := rD HS18
  cases hq19 : opB (tokAt l i2 bad2) ⟨#[58]⟩
  case true =>
   clear hq19
   go_wp2_with fail
   refine (need_any ⟨#[58]⟩ (hi.below HS18.out.below) (by omega)).mono ?_
   rintro e w21 ⟨⟨i20, bad20, rfl, hr20⟩, hb21⟩
   have HS21 := hide (HS18.out.call hb21)
   have HRh21 := hide (HRh18.out.call hb21)
   clear HRh18
   clear hb21 HS18
   clear p0
   obtain ⟨hi20, hl20, hp20, hj20⟩ := hr20.out (by omega)
   clear hr20
   have p0 := rD HS21
   go_wp2_with fail
   refine (Hpattern.out (hi.below HS21.out.below) (by omega) (by omega)).mono ?_
   rintro e w22 ⟨⟨i22, bad22, d22, k22, s22, y22, m22, c22, rfl, hn22, ⟨hi22, hl22, hp22⟩, hc22⟩, hb22⟩
   have HS22 := hide (HS21.out.call hb22)
   have HRh22 := hide (Px.made HRh21.out hn22 hb22 HS21.out rfl)
   clear HRh21
   have HNx22 := hide (show Nx w w22 [w.heap.size, w.heap.size + 1, w.heap.size + 1 + 1, w2.heap.size, w2.heap.size + 1, W4.heap.size] _ _ from Nx.made hn22 HS21.out)
   clear hn22 hb22 HS21
   clear p0
   have p0 := rD HS22
   have lv23 := lV HS22
   have hSt23 : St w ((w22.alloc (.cells #[.slice a l.length cap, .int .i64 i22, .bool bad22] 86)).alloc (.cells #[.int .i64 k22, .string s22, .slice y22 m22 c22] 24)) [pe w.heap.size a l cap i bad, pz (w.heap.size + 1), nz (w.heap.size + 1 + 1), pe w2.heap.size a l cap i2 bad2, ne (w2.heap.size + 1) k2 s2 y2 m2 c2, ne W4.heap.size 37 ⟨#[]⟩ (some ⟨W3.heap.size, 0, none⟩) 1 1, pe w22.heap.size a l cap i22 bad22, ne (w22.heap.size + 1) k22 s22 y22 m22 c22] := ((HS22.out.var 86 _ (by simp)).var 24 _ (by simp))
   have hPx23 : Px w ((w22.alloc (.cells #[.slice a l.length cap, .int .i64 i22, .bool bad22] 86)).alloc (.cells #[.int .i64 k22, .string s22, .slice y22 m22 c22] 24)) [w.heap.size, w.heap.size + 1, w.heap.size + 1 + 1, w2.heap.size, w2.heap.size + 1, W4.heap.size, w22.heap.size, w22.heap.size + 1] (.slice (some ⟨W3.heap.size, 0, none⟩) 1 1) [d2] [d22] [.int .i64 k22, .string s22, .slice y22 m22 c22] := ((HRh22.out.var (g := w22.heap.size) (by simp) _).var (g := w22.heap.size + 1) (by simp) _)
   obtain ⟨v23, w23, hr23, hH23, hS23⟩ := hPx23.snoc hSt23 rfl (by simp only [List.length_cons, List.length_nil]; omega) (by simp)
   simp only [World.size_alloc, List.length_cons, List.length_nil, Nat.zero_add] at hr23
   obtain ⟨y23, n23, c23, rfl⟩ := hH23.form'
   clear hSt23 hPx23 HS22 HRh22 HNx22
   have HS23 := hide hS23
   have HRh23 := hide hH23
   clear hS23 hH23
   have rr0 := rD HS23
   go_wp2_with (at_builtin; refine wpList_append_run rfl _ _ (by rfl) (by rfl) (by rfl) (by rfl) hr23 ?_)
   clear hr23 p0
   go_wp2_with fail
   refine namedWp fun W25 hW25 => ?_
   have HS25 := onS hW25 (HS23.out.st 5 rfl 2 _)
   have HRh25 := hide (Px.onto hW25 (HRh23.out.st (by simp) _ _))
   clear HRh23
   clear hW25 HS23
   clear rr0
   have HNn24 := hide (show Nx w W25 [w.heap.size, w.heap.size + 1, w.heap.size + 1 + 1, w2.heap.size, w2.heap.size + 1, W4.heap.size, w22.heap.size, w22.heap.size + 1] (Nd.of 37 ⟨#[]⟩ ([d2] ++ [d22])) (.agg #[.int .i64 37, .string ⟨#[]⟩, .slice y23 n23 c23]) from Px.node HRh25.out (by omega) (by decide))
   clear HRh25
   refine namedWp fun W26 hW26 => ?_
   have HS26 := hide (St.onto hW26 HS25.out)
   have HNn26 := hide (Nx.onto hW26 HNn24.out)
   clear HNn24
   clear hW26 HS25
   refine rgn HS26.out [6, 5] fun W27 hW27 => ?_
   have HS27 := hide (St.onto hW27 HS26.out.dr)
   have HNn27 := hide (Nx.onto hW27 HNn26.out.dr)
   clear HNn26
   clear hW27 HS26
   refine tK 0 (kS HS27.out [6, 5]) ?_
   refine tK 1 (kS HS27.out [6, 5]) ?_
   refine rY 2 fun K hK => ?_
   have p1 := rG HS27 1
   go_simp
   refine onW hK (kS (HS27.out.st3 1 rfl _ _ _) [6, 5]) fun W28 hW28 => ?_
   clear hK K
   have HS28 := onS hW28 (HS27.out.st3 1 rfl _ _ _)
   have HNn28 := hide (Nx.onto hW28 (HNn27.out.st3 (by simp) _ _ _))
   clear HNn27
   clear hW28 HS27
   clear p1
   refine rY 3 fun K hK => ?_
   have p2 := rG HS28 2
   go_simp
   refine onW hK (kS (HS28.out.st3 2 rfl _ _ _) [6, 5]) fun W29 hW29 => ?_
   clear hK K
   have HS29 := onS hW29 (HS28.out.st3 2 rfl _ _ _)
   have HNn29 := hide (Nx.onto hW29 (HNn28.out.st3 (by simp) _ _ _))
   clear HNn28
   clear hW29 HS28
   clear p2
   refine wpAnyH_done (by kernel_rfl) ?_ _
   go_wp2_with fail
   refine namedPost fun W30 hW30 => ?_
   have HS30 := hide (St.onto hW30 HS29.out)
   have HNn30 := hide (Nx.onto hW30 HNn29.out)
   clear HNn29
   clear hW30 HS29
   exact ended_pn rfl rfl rfl (HS30.out.get 1 rfl) (HS30.out.get 2 rfl) ⟨⟨_, _, _, _, _, _, _, _, rfl, HNn30.out.out, ⟨by omega, by omega, by omega⟩, by rw [cntOf, cntL_app, cntL_one, cntL_one]; omega⟩, HS30.out.below⟩
  clear hq19
  go_wp2_with fail
  refine namedWp fun W32 hW32 => ?_
  have HS32 := hide (St.onto hW32 HS18.out)
  have HRh32 := hide (Px.onto hW32 HRh18.out)
  clear HRh18
  clear hW32 HS18
  clear p0
  have HNn31 := hide (show Nx w W32 [w.heap.size, w.heap.size + 1, w.heap.size + 1 + 1, w2.heap.size, w2.heap.size + 1, W4.heap.size] (Nd.of 37 ⟨#[]⟩ [d2]) (.agg #[.int .i64 37, .string ⟨#[]⟩, .slice (some ⟨W3.heap.size, 0, none⟩) 1 1]) from Px.node HRh32.out (by omega) (by decide))
  clear HRh32
  refine namedWp fun W33 hW33 => ?_
  have HS33 := hide (St.onto hW33 HS32.out)
  have HNn33 := hide (Nx.onto hW33 HNn31.out)
  clear HNn31
  clear hW33 HS32
  refine rgn HS33.out [3, 5] fun W34 hW34 => ?_
  have HS34 := hide (St.onto hW34 HS33.out.dr)
  have HNn34 := hide (Nx.onto hW34 HNn33.out.dr)
  clear HNn33
  clear hW34 HS33
  refine tK 0 (kS HS34.out [3, 5]) ?_
  refine tK 1 (kS HS34.out [3, 5]) ?_
  refine rY 2 fun K hK => ?_
  have p1 := rG HS34 1
  go_simp
  refine onW hK (kS (HS34.out.st3 1 rfl _ _ _) [3, 5]) fun W35 hW35 => ?_
  clear hK K
  have HS35 := onS hW35 (HS34.out.st3 1 rfl _ _ _)
  have HNn35 := hide (Nx.onto hW35 (HNn34.out.st3 (by simp) _ _ _))
  clear HNn34
  clear hW35 HS34
  clear p1
  refine rY 3 fun K hK => ?_
  have p2 := rG HS35 2
  go_simp
  refine onW hK (kS (HS35.out.st3 2 rfl _ _ _) [3, 5]) fun W36 hW36 => ?_
  clear hK K
  have HS36 := onS hW36 (HS35.out.st3 2 rfl _ _ _)
  have HNn36 := hide (Nx.onto hW36 (HNn35.out.st3 (by simp) _ _ _))
  clear HNn35
  clear hW36 HS35
  clear p2
  refine wpAnyH_done (by kernel_rfl) ?_ _
  go_wp2_with fail
  refine namedPost fun W37 hW37 => ?_
  have HS37 := hide (St.onto hW37 HS36.out)
  have HNn37 := hide (Nx.onto hW37 HNn36.out)
  clear HNn36
  clear hW37 HS36
  exact ended_pn rfl rfl rfl (HS37.out.get 1 rfl) (HS37.out.get 2 rfl) ⟨⟨_, _, _, _, _, _, _, _, rfl, HNn37.out.out, ⟨by omega, by omega, by omega⟩, by rw [cntOf, cntL_one]; omega⟩, HS37.out.below⟩
end Go.Proofs.YtacgmmpdichlmaaGreat
