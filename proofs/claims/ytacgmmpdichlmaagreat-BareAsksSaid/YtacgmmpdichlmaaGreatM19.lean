/-
  The reference's exp: operands and operators. Its condition: the parser's items lie in memory.
-/
import Derived.Test.YtacgmmpdichlmaaGreatM02
namespace Go.Proofs.YtacgmmpdichlmaaGreat
open Go.RowKit
attribute [local go_sem ↓] Go.wp_at_zero Go.wp_at_succ

theorem ofR_in {l : List Tk} {x : Nat} {s : ByteArray} (h : OfR (tokAt l x false) s) (hs : s ∈ opsL) : x < l.length := by
  rcases h with rfl | ⟨_, h⟩
  · exact absurd rfl ((show ∀ s ∈ opsL, s ≠ ⟨#[]⟩ by decide) _ hs)
  · exact (tokAt_kind (l := l) (i := x) (b := false) (by rcases h with h | h <;> rw [h] <;> decide)).2

set_option maxRecDepth 4000 in
set_option maxHeartbeats 4000000 in
theorem exp_k {l : List Tk} {a : Option Addr} {cap m : Nat} (K : Kn l a cap m) (hoperand : ∀ ⦃i : Nat⦄ ⦃bad : Bool⦄ ⦃w : World⦄, Its w a l → i ≤ l.length → leftP l.length i bad ≤ m → Calls Tryz.prog 101 #[.agg #[.slice a l.length cap, .int .i64 i, .bool bad]] w (PN l a cap w i bad 2)) (y : Nat) {i : Nat} {bad : Bool} {w : World} (hi : Its w a l) (hat : i ≤ l.length) (hm : leftP l.length i bad ≤ m) : Calls Tryz.prog 93 #[.agg #[.slice a l.length cap, .int .i64 i, .bool bad], .int .i64 y] w (PN l a cap w i bad 2) := by
  have HK := hide K
  have hlen := hi.2.1
  clear K
  have Hoperand := hide hoperand
  clear hoperand
  go_enter Tryz.func93, Tryz.ntmps93
  go_wp2_with fail
  refine named fun W1 hW1 => ?_
  have HS1 := onS hW1 (St.nil w).va.va.va
  clear hW1
  refine (Hoperand.out (hi.below HS1.out.below) (by omega) (by omega)).mono ?_
  rintro e w2 ⟨⟨i2, bad2, d2, k2, s2, y2, m2, c2, rfl, hn2, ⟨hi2, hl2, hp2⟩, hc2⟩, hb2⟩
  have HS2 := hide (HS1.out.call hb2)
  have HNn2 := hide (show Nx w w2 [w.heap.size, w.heap.size + 1, w.heap.size + 1 + 1] _ _ from Nx.made hn2 HS1.out)
  clear hn2 hb2 HS1
  have p0 := rD HS2
  go_wp2_with fail
  have lv3 := lV HS2
  refine namedWp fun W3 hW3 => ?_
  have HS3 := onS hW3 (HS2.out.st3 0 rfl _ _ _).va
  have HNn3 := hide (Nx.onto hW3 ((HNn2.out.st3 (by simp) _ _ _).var (g := w2.heap.size) (by simp) _))
  clear HNn2
  clear hW3 HS2
  clear p0
  go_loopw [7] (fun z wr => ∃ (x : Nat) (b : Bool) (d : Nd) (k : Int) (s : ByteArray) (u : Option Addr) (q c zz : Nat), z = .int .i64 zz ∧ St w wr [(w.heap.size, 86, #[.slice a l.length cap, .int .i64 x, .bool b]), (w.heap.size + 1, 86, #[.slice none 0 0, .int .i64 0, .bool false]), (w.heap.size + 1 + 1, 24, #[.int .i64 0, .string ⟨#[]⟩, .slice none 0 0]), (w2.heap.size, 24, #[.int .i64 k, .string s, .slice u q c])] ∧ Nx w wr [w.heap.size, w.heap.size + 1, w.heap.size + 1 + 1, w2.heap.size] d (.agg #[.int .i64 k, .string s, .slice u q c]) ∧ (i ≤ x ∧ x ≤ l.length ∧ leftP l.length x b ≤ leftP l.length i bad ∧ d.count + 8 * i ≤ 8 * x + 2)) (fun _ wr => leftAt l.length w.heap.size wr)
  case atStart => exact ⟨i2, bad2, _, _, _, _, _, _, 0, rfl, HS3.out, HNn3.out, by omega, by omega, by omega, by omega⟩
  obtain ⟨x, b, d, k, s, u, q, c, zz, rfl, hS, hN, hx1, hx2, hx3, hx4⟩ := hrel
  have hMp := hS.get 0 rfl
  have HSr := hide hS
  have HNr := hide hN
  clear hS hN HS3 HNn3
  cases b
  case true =>
   have p0 := rD HSr
   go_wp2_with fail
   clear p0
   refine namedWp fun W4 hW4 => ?_
   have HS4 := hide (St.onto hW4 HSr.out)
   have HNn4 := hide (Nx.onto hW4 HNr.out)
   clear HNr
   clear hW4 HSr
   refine rgn HS4.out [0, 3] fun W5 hW5 => ?_
   have HS5 := hide (St.onto hW5 HS4.out.dr)
   have HNn5 := hide (Nx.onto hW5 HNn4.out.dr)
   clear HNn4
   clear hW5 HS4
   refine tK 0 (kS HS5.out [0, 3]) ?_
   refine tK 1 (kS HS5.out [0, 3]) ?_
   refine rY 2 fun K hK => ?_
   have p1 := rG HS5 1
   go_simp
   refine onW hK (kS (HS5.out.st3 1 rfl _ _ _) [0, 3]) fun W6 hW6 => ?_
   clear hK K
   have HS6 := onS hW6 (HS5.out.st3 1 rfl _ _ _)
   have HNn6 := hide (Nx.onto hW6 (HNn5.out.st3 (by simp) _ _ _))
   clear HNn5
   clear hW6 HS5
   clear p1
   refine rY 3 fun K hK => ?_
   have p2 := rG HS6 2
   go_simp
   refine onW hK (kS (HS6.out.st3 2 rfl _ _ _) [0, 3]) fun W7 hW7 => ?_
   clear hK K
   have HS7 := onS hW7 (HS6.out.st3 2 rfl _ _ _)
   have HNn7 := hide (Nx.onto hW7 (HNn6.out.st3 (by simp) _ _ _))
   clear HNn6
   clear hW7 HS6
   clear p2
   refine wpAnyH_done (by kernel_rfl) ?_ _
   go_wp2_with fail
   refine namedPost fun W8 hW8 => ?_
   have HS8 := hide (St.onto hW8 HS7.out)
   have HNn8 := hide (Nx.onto hW8 HNn7.out)
   clear HNn7
   clear hW8 HS7
   exact ended_pn rfl rfl rfl (HS8.out.get 1 rfl) (HS8.out.get 2 rfl) ⟨⟨_, _, _, _, _, _, _, _, rfl, HNn8.out.out, ⟨by omega, by omega, by omega⟩, by omega⟩, HS8.out.below⟩
  have p0 := rD HSr
  go_wp2_with fail
  refine (operTok_any (hi.below HSr.out.below)).mono ?_
  rintro e w9 ⟨⟨op, rfl, hop⟩, hb9⟩
  have HS9 := hide (HSr.out.call hb9)
  have HNn9 := hide (HNr.out.call hb9)
  clear HNr
  clear hb9 HSr
  clear p0
  have p0 := rD HS9
  have Hop := hide hop
  clear hop
  go_wp2_with fail
  refine (level_any op _).mono ?_
  rintro e w10 ⟨⟨v, rfl, hv, hvo⟩, hb10⟩
  have HS10 := hide (HS9.out.call hb10)
  have HNn10 := hide (HNn9.out.call hb10)
  clear HNn9
  clear hb10 HS9
  clear p0
  have p0 := rD HS10
  have Hvo := hide hvo
  clear hvo
  by_cases hv0 : v = 0
  ·
   subst hv0
   go_wp2_with fail
   clear p0
   refine namedWp fun W11 hW11 => ?_
   have HS11 := hide (St.onto hW11 HS10.out)
   have HNn11 := hide (Nx.onto hW11 HNn10.out)
   clear HNn10
   clear hW11 HS10
   refine rgn HS11.out [0, 3] fun W12 hW12 => ?_
   have HS12 := hide (St.onto hW12 HS11.out.dr)
   have HNn12 := hide (Nx.onto hW12 HNn11.out.dr)
   clear HNn11
   clear hW12 HS11
   refine tK 0 (kS HS12.out [0, 3]) ?_
   refine tK 1 (kS HS12.out [0, 3]) ?_
   refine rY 2 fun K hK => ?_
   have p1 := rG HS12 1
   go_simp
   refine onW hK (kS (HS12.out.st3 1 rfl _ _ _) [0, 3]) fun W13 hW13 => ?_
   clear hK K
   have HS13 := onS hW13 (HS12.out.st3 1 rfl _ _ _)
   have HNn13 := hide (Nx.onto hW13 (HNn12.out.st3 (by simp) _ _ _))
   clear HNn12
   clear hW13 HS12
   clear p1
   refine rY 3 fun K hK => ?_
   have p2 := rG HS13 2
   go_simp
   refine onW hK (kS (HS13.out.st3 2 rfl _ _ _) [0, 3]) fun W14 hW14 => ?_
   clear hK K
   have HS14 := onS hW14 (HS13.out.st3 2 rfl _ _ _)
   have HNn14 := hide (Nx.onto hW14 (HNn13.out.st3 (by simp) _ _ _))
   clear HNn13
   clear hW14 HS13
   clear p2
   refine wpAnyH_done (by kernel_rfl) ?_ _
   go_wp2_with fail
   refine namedPost fun W15 hW15 => ?_
   have HS15 := hide (St.onto hW15 HS14.out)
   have HNn15 := hide (Nx.onto hW15 HNn14.out)
   clear HNn14
   clear hW15 HS14
   exact ended_pn rfl rfl rfl (HS15.out.get 1 rfl) (HS15.out.get 2 rfl) ⟨⟨_, _, _, _, _, _, _, _, rfl, HNn15.out.out, ⟨by omega, by omega, by omega⟩, by omega⟩, HS15.out.below⟩
  have hvp : (0 : Int) < (v : Int) := by omega
  have hvn : ((v : Int) == 0) = false := by simp; omega
  have hin := ofR_in Hop.out (Hvo.out hv0)
  have hop0 := Hop.out.size (tokAt_ok hi.2.2 x false).2.1
  cases hbar : ((v : Int) == (zz : Int))
  case true =>
   go_wp2_with fail
   clear p0
   refine namedWp fun W16 hW16 => ?_
   have HS16 := hide (St.onto hW16 HS10.out)
   have HNn16 := hide (Nx.onto hW16 HNn10.out)
   clear HNn10
   clear hW16 HS10
   refine rgn HS16.out [0, 3] fun W17 hW17 => ?_
   have HS17 := hide (St.onto hW17 HS16.out.dr)
   have HNn17 := hide (Nx.onto hW17 HNn16.out.dr)
   clear HNn16
   clear hW17 HS16
   refine tK 0 (kS HS17.out [0, 3]) ?_
   refine tK 2 (kS HS17.out [0, 3]) ?_
   refine rY 1 fun K hK => ?_
   go_simp
   refine (wrong_any _ _ _ _ ⟨_, _, _, rfl⟩).mono ?_
   rintro e w19 ⟨rfl, hb19⟩
   have HS19 := hide (HS17.out.call hb19)
   have HNn19 := hide (HNn17.out.call hb19)
   clear HNn17
   clear hb19 HS17
   have p0 := rD HS19
   go_wp2_with fail
   have hwr18 := left_wrong l.length x false
   go_simp
   refine onK hK (kS HS19.out [0, 3]) ?_
   clear hK K
   refine rY 3 fun K hK => ?_
   clear p0
   have p1 := rG HS19 1
   go_simp
   refine onW hK (kS (HS19.out.st3 1 rfl _ _ _) [0, 3]) fun W20 hW20 => ?_
   clear hK K
   have HS20 := onS hW20 (HS19.out.st3 1 rfl _ _ _)
   have HNn20 := hide (Nx.onto hW20 (HNn19.out.st3 (by simp) _ _ _))
   clear HNn19
   clear hW20 HS19
   clear p1
   refine rY 4 fun K hK => ?_
   have p2 := rG HS20 2
   go_simp
   refine onW hK (kS (HS20.out.st3 2 rfl _ _ _) [0, 3]) fun W21 hW21 => ?_
   clear hK K
   have HS21 := onS hW21 (HS20.out.st3 2 rfl _ _ _)
   have HNn21 := hide (Nx.onto hW21 (HNn20.out.st3 (by simp) _ _ _))
   clear HNn20
   clear hW21 HS20
   clear p2
   refine wpAnyH_done (by kernel_rfl) ?_ _
   go_wp2_with fail
   refine namedPost fun W22 hW22 => ?_
   have HS22 := hide (St.onto hW22 HS21.out)
   have HNn22 := hide (Nx.onto hW22 HNn21.out)
   clear HNn21
   clear hW22 HS21
   exact ended_pn rfl rfl rfl (HS22.out.get 1 rfl) (HS22.out.get 2 rfl) ⟨⟨_, _, _, _, _, _, _, _, rfl, HNn22.out.out, ⟨by omega, by omega, by omega⟩, by omega⟩, HS22.out.below⟩
  cases hlst : decide ((v : Int) < (y : Int))
  case true =>
   have hlst2 : (v : Int) < (y : Int) := by simpa using hlst
   go_wp2_with fail
   clear p0
   refine namedWp fun W23 hW23 => ?_
   have HS23 := hide (St.onto hW23 HS10.out)
   have HNn23 := hide (Nx.onto hW23 HNn10.out)
   clear HNn10
   clear hW23 HS10
   refine rgn HS23.out [0, 3] fun W24 hW24 => ?_
   have HS24 := hide (St.onto hW24 HS23.out.dr)
   have HNn24 := hide (Nx.onto hW24 HNn23.out.dr)
   clear HNn23
   clear hW24 HS23
   refine tK 0 (kS HS24.out [0, 3]) ?_
   refine tK 1 (kS HS24.out [0, 3]) ?_
   refine rY 2 fun K hK => ?_
   have p1 := rG HS24 1
   go_simp
   refine onW hK (kS (HS24.out.st3 1 rfl _ _ _) [0, 3]) fun W25 hW25 => ?_
   clear hK K
   have HS25 := onS hW25 (HS24.out.st3 1 rfl _ _ _)
   have HNn25 := hide (Nx.onto hW25 (HNn24.out.st3 (by simp) _ _ _))
   clear HNn24
   clear hW25 HS24
   clear p1
   refine rY 3 fun K hK => ?_
   have p2 := rG HS25 2
   go_simp
   refine onW hK (kS (HS25.out.st3 2 rfl _ _ _) [0, 3]) fun W26 hW26 => ?_
   clear hK K
   have HS26 := onS hW26 (HS25.out.st3 2 rfl _ _ _)
   have HNn26 := hide (Nx.onto hW26 (HNn25.out.st3 (by simp) _ _ _))
   clear HNn25
   clear hW26 HS25
   clear p2
   refine wpAnyH_done (by kernel_rfl) ?_ _
   go_wp2_with fail
   refine namedPost fun W27 hW27 => ?_
   have HS27 := hide (St.onto hW27 HS26.out)
   have HNn27 := hide (Nx.onto hW27 HNn26.out)
   clear HNn26
   clear hW27 HS26
   exact ended_pn rfl rfl rfl (HS27.out.get 1 rfl) (HS27.out.get 2 rfl) ⟨⟨_, _, _, _, _, _, _, _, rfl, HNn27.out.out, ⟨by omega, by omega, by omega⟩, by omega⟩, HS27.out.below⟩
  have hlst2 : ¬ (v : Int) < (y : Int) := by simpa using hlst
  go_wp2_with fail
  refine (side_any op _).mono ?_
  rintro e w28 ⟨⟨sd, rfl, hsd⟩, hb28⟩
  have HS28 := hide (HS10.out.call hb28)
  have HNn28 := hide (HNn10.out.call hb28)
  clear HNn10
  clear hb28 HS10
  clear p0
  have p0 := rD HS28
  cases hsd0 : ((sd : Int) == 0)
  case true =>
   go_wp2_with fail
   refine (next_in (n := l.length) ⟨_, _, _, rfl⟩ (by omega) hlen).mono ?_
   rintro e w30 ⟨⟨j29, rfl, hj29, hl29, hp29⟩, hb30⟩
   have HS30 := hide (HS28.out.call hb30)
   have HNn30 := hide (HNn28.out.call hb30)
   clear HNn28
   clear hb30 HS28
   clear p0
   have p0 := rD HS30
   go_wp2_with fail
   refine (right_any op _).mono ?_
   rintro e w31 ⟨⟨rr, rfl, hrr⟩, hb31⟩
   have HS31 := hide (HS30.out.call hb31)
   have HNn31 := hide (HNn30.out.call hb31)
   clear HNn30
   clear hb31 HS30
   clear p0
   have p0 := rD HS31
   go_wp2_with fail
   refine (HK.out.exp rr (hi.below HS31.out.below) (by omega) (by omega)).mono ?_
   rintro e w32 ⟨⟨i32, bad32, d32, k32, s32, y32, m32, c32, rfl, hn32, ⟨hi32, hl32, hp32⟩, hc32⟩, hb32⟩
   have HS32 := hide (HS31.out.call hb32)
   have HNn32 := hide (HNn31.out.call hb32)
   clear HNn31
   have HNk232 := hide (show Nx w w32 [w.heap.size, w.heap.size + 1, w.heap.size + 1 + 1, w2.heap.size] _ _ from Nx.made hn32 HS31.out)
   clear hn32 hb32 HS31
   clear p0
   have p0 := rD HS32
   go_wp2_with (refine stopAt 57 ?_)
   have lv33 := lV HS32
   refine namedStop fun W33 hW33 => ?_
   have HS33 := onS hW33 (HS32.out.st3 0 rfl _ _ _).va.va
   have HNn33 := hide (Nx.onto hW33 (((HNn32.out.st3 (by simp) _ _ _).var (g := w32.heap.size) (by simp) _).var (g := w32.heap.size + 1) (by simp) _))
   have HNk233 := hide (Nx.onto hW33 (((HNk232.out.st3 (by simp) _ _ _).var (g := w32.heap.size) (by simp) _).var (g := w32.heap.size + 1) (by simp) _))
   clear HNn32 HNk232
   clear hW33 HS32
   clear p0
   have p0 := rD HS33
   go_wp2_with (refine stopAt 60 ?_)
   refine namedStop fun W34 hW34 => ?_
   have HS34 := hide (St.onto hW34 (HS33.out.al _))
   have HNn34 := hide (Nx.onto hW34 (HNn33.out.al _))
   have HNk234 := hide (Nx.onto hW34 (HNk233.out.al _))
   have HNm34 := hide (show Nx w W34 [w.heap.size, w.heap.size + 1, w.heap.size + 1 + 1, w2.heap.size, w32.heap.size, w32.heap.size + 1] (Nd.of 24 op [d, d32]) (.agg #[.int .i64 24, .string op, .slice (some ⟨W33.heap.size, 0, none⟩) 2 2]) from hW34 ▸ (Sx.join (Rx.lit (Rx.cons HNn33.out (Rx.cons HNk233.out (Rx.nil))) HS33.out rfl (by simp [maxLen])) (by omega) (by simp only [maxLen]; omega)))
   clear HNn33 HNk233
   clear hW34 HS33
   clear p0
   have p0 := rD HS34
   go_wp2_with fail
   exact ⟨⟨i32, bad32, _, _, _, _, _, _, v, rfl, (HS34.out.st3 3 rfl _ _ _).cut 4 rfl, (HNm34.out.st3 (by simp) _ _ _).fewer (by simp), by omega, by omega, by omega, by rw [cnt2]; omega⟩, by rw [leftAt_of ((HS34.out.st3 3 rfl _ _ _).get 0 rfl), leftAt_of hMp]; omega⟩
  go_wp2_with fail
  refine (next_in (n := l.length) ⟨_, _, _, rfl⟩ (by omega) hlen).mono ?_
  rintro e w36 ⟨⟨j35, rfl, hj35, hl35, hp35⟩, hb36⟩
  have HS36 := hide (HS28.out.call hb36)
  have HNn36 := hide (HNn28.out.call hb36)
  clear HNn28
  clear hb36 HS28
  clear p0
  have p0 := rD HS36
  go_wp2_with fail
  refine (right_any op _).mono ?_
  rintro e w37 ⟨⟨rr, rfl, hrr⟩, hb37⟩
  have HS37 := hide (HS36.out.call hb37)
  have HNn37 := hide (HNn36.out.call hb37)
  clear HNn36
  clear hb37 HS36
  clear p0
  have p0 := rD HS37
  go_wp2_with fail
  refine (HK.out.exp rr (hi.below HS37.out.below) (by omega) (by omega)).mono ?_
  rintro e w38 ⟨⟨i38, bad38, d38, k38, s38, y38, m38, c38, rfl, hn38, ⟨hi38, hl38, hp38⟩, hc38⟩, hb38⟩
  have HS38 := hide (HS37.out.call hb38)
  have HNn38 := hide (HNn37.out.call hb38)
  clear HNn37
  have HNk238 := hide (show Nx w w38 [w.heap.size, w.heap.size + 1, w.heap.size + 1 + 1, w2.heap.size] _ _ from Nx.made hn38 HS37.out)
  clear hn38 hb38 HS37
  clear p0
  have p0 := rD HS38
  go_wp2_with (refine stopAt 57 ?_)
  have lv39 := lV HS38
  refine namedStop fun W39 hW39 => ?_
  have HS39 := onS hW39 (HS38.out.st3 0 rfl _ _ _).va.va
  have HNn39 := hide (Nx.onto hW39 (((HNn38.out.st3 (by simp) _ _ _).var (g := w38.heap.size) (by simp) _).var (g := w38.heap.size + 1) (by simp) _))
  have HNk239 := hide (Nx.onto hW39 (((HNk238.out.st3 (by simp) _ _ _).var (g := w38.heap.size) (by simp) _).var (g := w38.heap.size + 1) (by simp) _))
  clear HNn38 HNk238
  clear hW39 HS38
  clear p0
  have p0 := rD HS39
  go_wp2_with (refine stopAt 60 ?_)
  refine namedStop fun W40 hW40 => ?_
  have HS40 := hide (St.onto hW40 (HS39.out.al _))
  have HNn40 := hide (Nx.onto hW40 (HNn39.out.al _))
  have HNk240 := hide (Nx.onto hW40 (HNk239.out.al _))
  have HNm40 := hide (show Nx w W40 [w.heap.size, w.heap.size + 1, w.heap.size + 1 + 1, w2.heap.size, w38.heap.size, w38.heap.size + 1] (Nd.of 24 op [d, d38]) (.agg #[.int .i64 24, .string op, .slice (some ⟨W39.heap.size, 0, none⟩) 2 2]) from hW40 ▸ (Sx.join (Rx.lit (Rx.cons HNn39.out (Rx.cons HNk239.out (Rx.nil))) HS39.out rfl (by simp [maxLen])) (by omega) (by simp only [maxLen]; omega)))
  clear HNn39 HNk239
  clear hW40 HS39
  clear p0
  have p0 := rD HS40
  go_wp2_with fail
  exact ⟨⟨i38, bad38, _, _, _, _, _, _, 0, rfl, (HS40.out.st3 3 rfl _ _ _).cut 4 rfl, (HNm40.out.st3 (by simp) _ _ _).fewer (by simp), by omega, by omega, by omega, by rw [cnt2]; omega⟩, by rw [leftAt_of ((HS40.out.st3 3 rfl _ _ _).get 0 rfl), leftAt_of hMp]; omega⟩
end Go.Proofs.YtacgmmpdichlmaaGreat
