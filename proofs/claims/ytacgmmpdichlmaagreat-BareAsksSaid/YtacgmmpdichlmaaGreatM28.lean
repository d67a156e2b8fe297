/-
  The reference's post: a term, and what stands behind it. Its condition: the parser's items lie in memory.
-/
import Derived.Test.YtacgmmpdichlmaaGreatM14
namespace Go.Proofs.YtacgmmpdichlmaaGreat
open Go.RowKit
attribute [local go_sem ↓] Go.wp_at_zero Go.wp_at_succ

set_option maxRecDepth 4000 in
set_option maxHeartbeats 4000000 in
theorem post_k {l : List Tk} {a : Option Addr} {cap m : Nat} (K : Kn l a cap m) (hterm : ∀ ⦃i : Nat⦄ ⦃bad : Bool⦄ ⦃w : World⦄, Its w a l → i ≤ l.length → leftP l.length i bad ≤ m → Calls Tryz.prog 112 #[.agg #[.slice a l.length cap, .int .i64 i, .bool bad]] w (PN l a cap w i bad 2)) {i : Nat} {bad : Bool} {w : World} (hi : Its w a l) (hat : i ≤ l.length) (hm : leftP l.length i bad ≤ m) : Calls Tryz.prog 108 #[.agg #[.slice a l.length cap, .int .i64 i, .bool bad]] w (PN l a cap w i bad 2) := by
  have HK := hide K
  have hlen := hi.2.1
  clear K
  have Hterm := hide hterm
  clear hterm
  go_enter Tryz.func108, Tryz.ntmps108
  go_wp2_with fail
  refine named fun W1 hW1 => ?_
  have HS1 := onS hW1 (St.nil w).va.va.va
  clear hW1
  refine (Hterm.out (hi.below HS1.out.below) (by omega) (by omega)).mono ?_
  rintro e w2 ⟨⟨i2, bad2, d2, k2, s2, y2, m2, c2, rfl, hn2, ⟨hi2, hl2, hp2⟩, hc2⟩, hb2⟩
  have HS2 := hide (HS1.out.call hb2)
  have HNn2 := hide (show Nx w w2 [w.heap.size, w.heap.size + 1, w.heap.size + 1 + 1] _ _ from Nx.made hn2 HS1.out)
  clear hn2 hb2 HS1
  have p0 := rD HS2
  go_wp2_with fail
  have lv3 := lV HS2
  refine namedWp fun W3 hW3 => ?_
  have HS3 := onS hW3 (HS2.out.st3 0 rfl _ _ _).va
  have HNn3 := hide (Nx.onto hW3 ((HNn2.out.st3 (by simp) _ _ _).var (g := w2.heap.size) (by simp) _))
  clear HNn2
  clear hW3 HS2
  clear p0
  go_loopw [] (fun wr => ∃ (x : Nat) (b : Bool) (d : Nd) (k : Int) (s : ByteArray) (u : Option Addr) (q c : Nat), St w wr [(w.heap.size, 86, #[.slice a l.length cap, .int .i64 x, .bool b]), (w.heap.size + 1, 86, #[.slice none 0 0, .int .i64 0, .bool false]), (w.heap.size + 1 + 1, 24, #[.int .i64 0, .string ⟨#[]⟩, .slice none 0 0]), (w2.heap.size, 24, #[.int .i64 k, .string s, .slice u q c])] ∧ Nx w wr [w.heap.size, w.heap.size + 1, w.heap.size + 1 + 1, w2.heap.size] d (.agg #[.int .i64 k, .string s, .slice u q c]) ∧ (i ≤ x ∧ x ≤ l.length ∧ leftP l.length x b ≤ leftP l.length i bad ∧ d.count + 8 * i ≤ 8 * x + 2)) (fun wr => leftAt l.length w.heap.size wr)
  case atStart => exact ⟨i2, bad2, _, _, _, _, _, _, HS3.out, HNn3.out, by omega, by omega, by omega, by omega⟩
  obtain ⟨x, b, d, k, s, u, q, c, hS, hN, hx1, hx2, hx3, hx4⟩ := hrel
  have hMp := hS.get 0 rfl
  have HSr := hide hS
  have HNr := hide hN
  clear hS hN HS3 HNn3
  cases b
  case true =>
   have p0 := rD HSr
   go_wp2_with fail
   clear p0
   refine namedWp fun W4 hW4 => ?_
   have HS4 := hide (St.onto hW4 HSr.out)
   have HNn4 := hide (Nx.onto hW4 HNr.out)
   clear HNr
   clear hW4 HSr
   refine rgn HS4.out [0, 3] fun W5 hW5 => ?_
   have HS5 := hide (St.onto hW5 HS4.out.dr)
   have HNn5 := hide (Nx.onto hW5 HNn4.out.dr)
   clear HNn4
   clear hW5 HS4
   refine tK 0 (kS HS5.out [0, 3]) ?_
   refine tK 1 (kS HS5.out [0, 3]) ?_
   refine rY 2 fun K hK => ?_
   have p1 := rG HS5 1
   go_simp
   refine onW hK (kS (HS5.out.st3 1 rfl _ _ _) [0, 3]) fun W6 hW6 => ?_
   clear hK K
   have HS6 := onS hW6 (HS5.out.st3 1 rfl _ _ _)
   have HNn6 := hide (Nx.onto hW6 (HNn5.out.st3 (by simp) _ _ _))
   clear HNn5
   clear hW6 HS5
   clear p1
   refine rY 3 fun K hK => ?_
   have p2 := rG HS6 2
   go_simp
   refine onW hK (kS (HS6.out.st3 2 rfl _ _ _) [0, 3]) fun W7 hW7 => ?_
   clear hK K
   have HS7 := onS hW7 (HS6.out.st3 2 rfl _ _ _)
   have HNn7 := hide (Nx.onto hW7 (HNn6.out.st3 (by simp) _ _ _))
   clear HNn6
   clear hW7 HS6
   clear p2
   refine wpAnyH_done (by kernel_rfl) ?_ _
   go_wp2_with fail
   refine namedPost fun W8 hW8 => ?_
   have HS8 := hide (St.onto hW8 HS7.out)
   have HNn8 := hide (Nx.onto hW8 HNn7.out)
   clear HNn7
   clear hW8 HS7
   exact ended_pn rfl rfl rfl (HS8.out.get 1 rfl) (HS8.out.get 2 rfl) ⟨⟨_, _, _, _, _, _, _, _, rfl, HNn8.out.out, ⟨by omega, by omega, by omega⟩, by omega⟩, HS8.out.below⟩
  have p0 := rD HSr
  go_wp2_with fail
  obtain ⟨t9, ht9⟩ : ∃ t, tokAt l x false = t := ⟨_, rfl⟩
  have hok9 := tokAt_ok hi.2.2 x false
  rw [ht9] at hok9
  obtain ⟨hkb9, hz9, hone9⟩ := hok9
  have HT9 := hide ht9
  clear ht9
  have Hone9 := hide hone9
  clear hone9
  have hfa9 := fieldT0 t9.kind t9.text
  have hfb9 := fieldT1 t9.kind t9.text
  refine (tok_any (hi.below HSr.out.below)).mono ?_
  rintro e w10 ⟨rfl, hb10⟩
  rw [HT9.out]
  have HS10 := hide (HSr.out.call hb10)
  have HNn10 := hide (HNr.out.call hb10)
  clear HNr
  clear hb10 HSr
  clear p0
  have p0 := rD HS10
  by_cases hk11 : t9.kind = 4
  ·
   have h1s : (1 : Int) ≤ (t9.text.size : Int) := by have := Hone9.out (by omega); omega
   have he12 : (t9.kind == 4) = true := by simpa using hk11
   have hn12 : (t9.kind != 4) = false := by simpa using hk11
   have HK12 := hide hk11
   clear hk11
   have hlt13 := (tokAt_kind (l := l) (i := x) (b := false) (by rw [HT9.out, HK12.out]; decide)).2
   go_wp2_with fail
   have lv14 := lV HS10
   refine namedWp fun W14 hW14 => ?_
   have HS14 := onS hW14 HS10.out.va
   have HNn14 := hide (Nx.onto hW14 (HNn10.out.var (g := w10.heap.size) (by simp) _))
   clear HNn10
   clear hW14 HS10
   clear p0
   refine rgn HS14.out [4] fun W15 hW15 => ?_
   have HS15 := hide (St.onto hW15 HS14.out.dr)
   have HNn15 := hide (Nx.onto hW15 HNn14.out.dr)
   clear HNn14
   clear hW15 HS14
   refine tK 0 (kS HS15.out [4]) ?_
   refine tK 1 (kS HS15.out [4]) ?_
   refine tK 2 (kS HS15.out [4]) ?_
   refine rY 3 fun K hK => ?_
   have p3 := rG HS15 3
   go_simp
   refine onK hK (kS HS15.out [4]) ?_
   clear hK K
   refine rY 4 fun K hK => ?_
   go_simp
   refine onW hK (kS (HS15.out.al _) [4]) fun W16 hW16 => ?_
   clear hK K
   have HS16 := hide (St.onto hW16 (HS15.out.al _))
   have HNn16 := hide (Nx.onto hW16 (HNn15.out.al _))
   have HNm16 := hide (show Nx w W16 [w.heap.size, w.heap.size + 1, w.heap.size + 1 + 1, w2.heap.size, w10.heap.size] (Nd.of 21 (t9.text.extract 1 t9.text.size) [d]) (.agg #[.int .i64 21, .string (t9.text.extract 1 t9.text.size), .slice (some ⟨W15.heap.size, 0, none⟩) 1 1]) from hW16 ▸ (Sx.join (Rx.lit (Rx.cons HNn15.out (Rx.nil)) HS15.out rfl (by simp [maxLen])) (by omega) (by simp only [ByteArray.size_extract, maxLen]; omega)))
   clear HNn15
   clear hW16 HS15
   clear p3
   refine tK 5 (kS HS16.out [4]) ?_
   refine rY 6 fun K hK => ?_
   have p3 := rG HS16 3
   go_simp
   refine onW hK (kS (HS16.out.st3 3 rfl _ _ _) [4]) fun W17 hW17 => ?_
   clear hK K
   have HS17 := onS hW17 (HS16.out.st3 3 rfl _ _ _)
   have HNn17 := hide (Nx.onto hW17 (HNn16.out.st3 (by simp) _ _ _))
   have HNm17 := hide (Nx.onto hW17 (HNm16.out.st3 (by simp) _ _ _))
   clear HNn16 HNm16
   clear hW17 HS16
   clear p3
   refine wpAnyH_done (by kernel_rfl) ?_ _
   have p0 := rD HS17
   go_wp2_with fail
   refine (next_in (n := l.length) ⟨_, _, _, rfl⟩ (by omega) hlen).mono ?_
   rintro e w19 ⟨⟨j18, rfl, hj18, hl18, hp18⟩, hb19⟩
   have HS19 := hide (HS17.out.call hb19)
   have HNn19 := hide (HNm17.out.call hb19)
   clear HNm17
   clear hb19 HS17
   clear p0
   have p0 := rD HS19
   go_wp2_with fail
   exact ⟨⟨j18, false, _, _, _, _, _, _, (HS19.out.st3 0 rfl _ _ _).cut 4 rfl, (HNn19.out.st3 (by simp) _ _ _).fewer (by simp), by omega, by omega, by omega, by rw [cnt1]; omega⟩, by rw [leftAt_of ((HS19.out.st3 0 rfl _ _ _).get 0 rfl), leftAt_of hMp]; omega⟩
  have he20 : (t9.kind == 4) = false := by simpa using hk11
  have hn20 : (t9.kind != 4) = true := by simpa using hk11
  clear hk11
  go_wp2_with fail
  have lv21 := lV HS10
  refine named fun W21 hW21 => ?_
  have HS21 := onS hW21 HS10.out.va
  have HNn21 := hide (Nx.onto hW21 (HNn10.out.var (g := w10.heap.size) (by simp) _))
  clear HNn10
  clear hW21 HS10
  clear p0
  refine (op_any ⟨#[63]⟩ (hi.below HS21.out.below)).mono ?_
  rintro e w22 ⟨rfl, hb22⟩
  have HS22 := hide (HS21.out.call hb22)
  have HNn22 := hide (HNn21.out.call hb22)
  clear HNn21
  clear hb22 HS21
  have p0 := rD HS22
  cases hq23 : opB (tokAt l x false) ⟨#[63]⟩
  case true =>
   have hlt24 := (opB_in hq23).2
   clear hq23
   clear p0
   have p0 := rD HS22
   go_wp2_with (refine stopAt 41 ?_)
   refine namedStop fun W25 hW25 => ?_
   have HS25 := hide (St.onto hW25 (HS22.out.al _))
   have HNn25 := hide (Nx.onto hW25 (HNn22.out.al _))
   have HNm25 := hide (show Nx w W25 [w.heap.size, w.heap.size + 1, w.heap.size + 1 + 1, w2.heap.size, w10.heap.size] (Nd.of 23 ⟨#[]⟩ [d]) (.agg #[.int .i64 23, .string ⟨#[]⟩, .slice (some ⟨w22.heap.size, 0, none⟩) 1 1]) from hW25 ▸ (Sx.join (Rx.lit (Rx.cons HNn22.out (Rx.nil)) HS22.out rfl (by simp [maxLen])) (by omega) (by decide)))
   clear HNn22
   clear hW25 HS22
   clear p0
   have p0 := rD HS25
   go_wp2_with fail
   refine named fun W26 hW26 => ?_
   have HS26 := onS hW26 (HS25.out.st3 3 rfl _ _ _)
   have HNn26 := hide (Nx.onto hW26 (HNm25.out.st3 (by simp) _ _ _))
   clear HNm25
   clear hW26 HS25
   clear p0
   refine (next_in (n := l.length) ⟨_, _, _, rfl⟩ (by omega) hlen).mono ?_
   rintro e w28 ⟨⟨j27, rfl, hj27, hl27, hp27⟩, hb28⟩
   have HS28 := hide (HS26.out.call hb28)
   have HNn28 := hide (HNn26.out.call hb28)
   clear HNn26
   clear hb28 HS26
   have p0 := rD HS28
   go_wp2_with fail
   exact ⟨⟨j27, false, _, _, _, _, _, _, (HS28.out.st3 0 rfl _ _ _).cut 4 rfl, (HNn28.out.st3 (by simp) _ _ _).fewer (by simp), by omega, by omega, by omega, by rw [cnt1]; omega⟩, by rw [leftAt_of ((HS28.out.st3 0 rfl _ _ _).get 0 rfl), leftAt_of hMp]; omega⟩
  clear hq23
  go_wp2_with fail
  refine (op_any ⟨#[91]⟩ (hi.below HS22.out.below)).mono ?_
  rintro e w29 ⟨rfl, hb29⟩
  have HS29 := hide (HS22.out.call hb29)
  have HNn29 := hide (HNn22.out.call hb29)
  clear HNn22
  clear hb29 HS22
  clear p0
  have p0 := rD HS29
  cases hq30 : opB (tokAt l x false) ⟨#[91]⟩
  case true =>
   have Ho := hide hq30
   have hlt31 := (opB_in hq30).2
   clear hq30
   go_wp2_with fail
   refine (within_k HK.out (F := Nf w w29 [w.heap.size, w.heap.size + 1, w.heap.size + 1 + 1, w2.heap.size, w10.heap.size]) (hi.below HS29.out.below) (by omega) Ho.out (by omega) (by decide) HNn29.out (fun b hb => hb.2.1)).mono ?_
   rintro e w32 ⟨⟨i32, bad32, d32, k32, s32, y32, m32, c32, rfl, hn32, ⟨hi32, hl32, hp32⟩, hc32⟩, hb32⟩
   have HS32 := hide (HS29.out.call hb32)
   have HNx32 := hide (show Nx w w32 [w.heap.size, w.heap.size + 1, w.heap.size + 1 + 1, w2.heap.size, w10.heap.size] d32 (.agg #[.int .i64 k32, .string s32, .slice y32 m32 c32]) from Nx.within HS29.out hb32 hn32)
   clear hn32 hb32 HS29 HNn29
   clear p0
   have p0 := rD HS32
   go_wp2_with (refine stopAt 54 ?_)
   have lv33 := lV HS32
   refine namedStop fun W33 hW33 => ?_
   have HS33 := onS hW33 (HS32.out.st3 0 rfl _ _ _).va.va
   have HNx33 := hide (Nx.onto hW33 (((HNx32.out.st3 (by simp) _ _ _).var (g := w32.heap.size) (by simp) _).var (g := w32.heap.size + 1) (by simp) _))
   clear HNx32
   clear hW33 HS32
   clear p0
   have p0 := rD HS33
   go_wp2_with fail
   exact ⟨⟨i32, bad32, _, _, _, _, _, _, (HS33.out.st3 3 rfl _ _ _).cut 4 rfl, (HNx33.out.st3 (by simp) _ _ _).fewer (by simp), by omega, by omega, by omega, by omega⟩, by rw [leftAt_of ((HS33.out.st3 3 rfl _ _ _).get 0 rfl), leftAt_of hMp]; omega⟩
  clear hq30
  go_wp2_with fail
  refine (op_any ⟨#[46]⟩ (hi.below HS29.out.below)).mono ?_
  rintro e w34 ⟨rfl, hb34⟩
  have HS34 := hide (HS29.out.call hb34)
  have HNn34 := hide (HNn29.out.call hb34)
  clear HNn29
  clear hb34 HS29
  clear p0
  have p0 := rD HS34
  cases hq35 : opB (tokAt l x false) ⟨#[46]⟩
  case false =>
   clear hq35
   go_wp2_with fail
   refine namedWp fun W36 hW36 => ?_
   have HS36 := hide (St.onto hW36 HS34.out)
   have HNn36 := hide (Nx.onto hW36 HNn34.out)
   clear HNn34
   clear hW36 HS34
   clear p0
   refine rgn HS36.out [0, 3] fun W37 hW37 => ?_
   have HS37 := hide (St.onto hW37 HS36.out.dr)
   have HNn37 := hide (Nx.onto hW37 HNn36.out.dr)
   clear HNn36
   clear hW37 HS36
   refine tK 0 (kS HS37.out [0, 3]) ?_
   refine tK 1 (kS HS37.out [0, 3]) ?_
   refine rY 2 fun K hK => ?_
   have p1 := rG HS37 1
   go_simp
   refine onW hK (kS (HS37.out.st3 1 rfl _ _ _) [0, 3]) fun W38 hW38 => ?_
   clear hK K
   have HS38 := onS hW38 (HS37.out.st3 1 rfl _ _ _)
   have HNn38 := hide (Nx.onto hW38 (HNn37.out.st3 (by simp) _ _ _))
   clear HNn37
   clear hW38 HS37
   clear p1
   refine rY 3 fun K hK => ?_
   have p2 := rG HS38 2
   go_simp
   refine onW hK (kS (HS38.out.st3 2 rfl _ _ _) [0, 3]) fun W39 hW39 => ?_
   clear hK K
   have HS39 := onS hW39 (HS38.out.st3 2 rfl _ _ _)
   have HNn39 := hide (Nx.onto hW39 (HNn38.out.st3 (by simp) _ _ _))
   clear HNn38
   clear hW39 HS38
   clear p2
   refine wpAnyH_done (by kernel_rfl) ?_ _
   go_wp2_with fail
   refine namedPost fun W40 hW40 => ?_
   have HS40 := hide (St.onto hW40 HS39.out)
   have HNn40 := hide (Nx.onto hW40 HNn39.out)
   clear HNn39
   clear hW40 HS39
   exact ended_pn rfl rfl rfl (HS40.out.get 1 rfl) (HS40.out.get 2 rfl) ⟨⟨_, _, _, _, _, _, _, _, rfl, HNn40.out.out, ⟨by omega, by omega, by omega⟩, by omega⟩, HS40.out.below⟩
  have hlt41 := (opB_in hq35).2
  clear hq35
  go_wp2_with fail
  refine (next_in (n := l.length) ⟨_, _, _, rfl⟩ (by omega) hlen).mono ?_
  rintro e w43 ⟨⟨j42, rfl, hj42, hl42, hp42⟩, hb43⟩
  have HS43 := hide (HS34.out.call hb43)
  have HNn43 := hide (HNn34.out.call hb43)
  clear HNn34
  clear hb43 HS34
  clear p0
  have p0 := rD HS43
  go_wp2_with fail
  refine named fun W44 hW44 => ?_
  have HS44 := onS hW44 (HS43.out.st3 0 rfl _ _ _)
  have HNn44 := hide (Nx.onto hW44 (HNn43.out.st3 (by simp) _ _ _))
  clear HNn43
  clear hW44 HS43
  clear p0
  refine (op_any ⟨#[91]⟩ (hi.below HS44.out.below)).mono ?_
  rintro e w45 ⟨rfl, hb45⟩
  have HS45 := hide (HS44.out.call hb45)
  have HNn45 := hide (HNn44.out.call hb45)
  clear HNn44
  clear hb45 HS44
  have p0 := rD HS45
  cases hq46 : opB (tokAt l j42 false) ⟨#[91]⟩
  case true =>
   have Ho := hide hq46
   have hlt47 := (opB_in hq46).2
   clear hq46
   go_wp2_with fail
   refine (within_k HK.out (F := Nf w w45 [w.heap.size, w.heap.size + 1, w.heap.size + 1 + 1, w2.heap.size, w10.heap.size]) (hi.below HS45.out.below) (by omega) Ho.out (by omega) (by decide) HNn45.out (fun b hb => hb.2.1)).mono ?_
   rintro e w48 ⟨⟨i48, bad48, d48, k48, s48, y48, m48, c48, rfl, hn48, ⟨hi48, hl48, hp48⟩, hc48⟩, hb48⟩
   have HS48 := hide (HS45.out.call hb48)
   have HNx48 := hide (show Nx w w48 [w.heap.size, w.heap.size + 1, w.heap.size + 1 + 1, w2.heap.size, w10.heap.size] d48 (.agg #[.int .i64 k48, .string s48, .slice y48 m48 c48]) from Nx.within HS45.out hb48 hn48)
   clear hn48 hb48 HS45 HNn45
   clear p0
   have p0 := rD HS48
   go_wp2_with (refine stopAt 69 ?_)
   have lv49 := lV HS48
   refine namedStop fun W49 hW49 => ?_
   have HS49 := onS hW49 (HS48.out.st3 0 rfl _ _ _).va.va
   have HNx49 := hide (Nx.onto hW49 (((HNx48.out.st3 (by simp) _ _ _).var (g := w48.heap.size) (by simp) _).var (g := w48.heap.size + 1) (by simp) _))
   clear HNx48
   clear hW49 HS48
   clear p0
   have p0 := rD HS49
   go_wp2_with fail
   exact ⟨⟨i48, bad48, _, _, _, _, _, _, (HS49.out.st3 3 rfl _ _ _).cut 4 rfl, (HNx49.out.st3 (by simp) _ _ _).fewer (by simp), by omega, by omega, by omega, by omega⟩, by rw [leftAt_of ((HS49.out.st3 3 rfl _ _ _).get 0 rfl), leftAt_of hMp]; omega⟩
  clear hq46
  go_wp2_with fail
  refine (HK.out.str (hi.below HS45.out.below) (by omega) (by omega)).mono ?_
  rintro e w50 ⟨⟨i50, bad50, d50, k50, s50, y50, m50, c50, rfl, hn50, ⟨hi50, hl50, hp50⟩, hc50⟩, hb50⟩
  have HS50 := hide (HS45.out.call hb50)
  have HNn50 := hide (HNn45.out.call hb50)
  clear HNn45
  have HNx50 := hide (show Nx w w50 [w.heap.size, w.heap.size + 1, w.heap.size + 1 + 1, w2.heap.size, w10.heap.size] _ _ from Nx.made hn50 HS45.out)
  clear hn50 hb50 HS45
  clear p0
  have p0 := rD HS50
  go_wp2_with (refine stopAt 76 ?_)
  have lv51 := lV HS50
  refine namedStop fun W51 hW51 => ?_
  have HS51 := onS hW51 (HS50.out.st3 0 rfl _ _ _).va.va
  have HNn51 := hide (Nx.onto hW51 (((HNn50.out.st3 (by simp) _ _ _).var (g := w50.heap.size) (by simp) _).var (g := w50.heap.size + 1) (by simp) _))
  have HNx51 := hide (Nx.onto hW51 (((HNx50.out.st3 (by simp) _ _ _).var (g := w50.heap.size) (by simp) _).var (g := w50.heap.size + 1) (by simp) _))
  clear HNn50 HNx50
  clear hW51 HS50
  clear p0
  have p0 := rD HS51
  go_wp2_with (refine stopAt 79 ?_)
  refine namedStop fun W52 hW52 => ?_
  have HS52 := hide (St.onto hW52 (HS51.out.al _))
  have HNn52 := hide (Nx.onto hW52 (HNn51.out.al _))
  have HNx52 := hide (Nx.onto hW52 (HNx51.out.al _))
  have HNm52 := hide (show Nx w W52 [w.heap.size, w.heap.size + 1, w.heap.size + 1 + 1, w2.heap.size, w10.heap.size, w50.heap.size, w50.heap.size + 1] (Nd.of 22 ⟨#[]⟩ [d, d50]) (.agg #[.int .i64 22, .string ⟨#[]⟩, .slice (some ⟨W51.heap.size, 0, none⟩) 2 2]) from hW52 ▸ (Sx.join (Rx.lit (Rx.cons HNn51.out (Rx.cons HNx51.out (Rx.nil))) HS51.out rfl (by simp [maxLen])) (by omega) (by decide)))
  clear HNn51 HNx51
  clear hW52 HS51
  clear p0
  have p0 := rD HS52
  go_wp2_with fail
  exact ⟨⟨i50, bad50, _, _, _, _, _, _, (HS52.out.st3 3 rfl _ _ _).cut 4 rfl, (HNm52.out.st3 (by simp) _ _ _).fewer (by simp), by omega, by omega, by omega, by rw [cnt2]; omega⟩, by rw [leftAt_of ((HS52.out.st3 3 rfl _ _ _).get 0 rfl), leftAt_of hMp]; omega⟩
end Go.Proofs.YtacgmmpdichlmaaGreat
