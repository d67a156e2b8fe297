/-
  The reference's term. Its condition: the parser's items lie in memory.
-/
import Derived.Test.YtacgmmpdichlmaaGreatM02
namespace Go.Proofs.YtacgmmpdichlmaaGreat
open Go.RowKit
attribute [local go_sem ↓] Go.wp_at_zero Go.wp_at_succ

set_option maxRecDepth 4000 in
set_option maxHeartbeats 4000000 in
theorem term_k {l : List Tk} {a : Option Addr} {cap m : Nat} (K : Kn l a cap m) (hstr : ∀ ⦃i : Nat⦄ ⦃bad : Bool⦄ ⦃w : World⦄, Its w a l → i ≤ l.length → leftP l.length i bad ≤ m → Calls Tryz.prog 88 #[.agg #[.slice a l.length cap, .int .i64 i, .bool bad]] w (PN l a cap w i bad 2)) (hbracket : ∀ ⦃i : Nat⦄ ⦃bad : Bool⦄ ⦃w : World⦄, Its w a l → i ≤ l.length → leftP l.length i bad ≤ m → Calls Tryz.prog 116 #[.agg #[.slice a l.length cap, .int .i64 i, .bool bad]] w (PN l a cap w i bad 2)) (hworded : ∀ ⦃i : Nat⦄ ⦃w : World⦄, Its w a l → i < l.length → leftP l.length i false ≤ m → Calls Tryz.prog 117 #[.agg #[.slice a l.length cap, .int .i64 i, .bool false]] w (PN l a cap w i false 2)) {i : Nat} {bad : Bool} {w : World} (hi : Its w a l) (hat : i ≤ l.length) (hm : leftP l.length i bad ≤ m) : Calls Tryz.prog 112 #[.agg #[.slice a l.length cap, .int .i64 i, .bool bad]] w (PN l a cap w i bad 2) := by
  have HK := hide K
  have hlen := hi.2.1
  clear K
  have Hstr := hide hstr
  clear hstr
  have Hbracket := hide hbracket
  clear hbracket
  have Hworded := hide hworded
  clear hworded
  go_enter Tryz.func112, Tryz.ntmps112
  go_wp2_with fail
  refine named fun W1 hW1 => ?_
  have HS1 := onS hW1 (St.nil w).va.va.va
  clear hW1
  refine (leaf_any (hi.below HS1.out.below)).mono ?_
  rintro e w2 ⟨⟨k1, s1, y1, rfl, hk1, hs1, hy1⟩, hb2⟩
  have HS2 := hide (HS1.out.call hb2)
  clear hb2 HS1
  have p0 := rD HS2
  cases y1
  case true =>
   obtain ⟨rfl, hlt1⟩ := hy1 rfl
   go_wp2_with fail
   have lv3 := lV HS2
   refine namedWp fun W3 hW3 => ?_
   have HS3 := onS hW3 HS2.out.va
   clear hW3 HS2
   clear p0
   have HNn4 := hide (show Nx w W3 [w.heap.size, w.heap.size + 1, w.heap.size + 1 + 1, w2.heap.size] (Nd.mk k1 s1 .nil) (.agg #[.int .i64 k1, .string s1, .slice none 0 0]) from Nx.leaf (by omega) (by simp only [maxLen]; omega))
   refine namedWp fun W5 hW5 => ?_
   have HS5 := hide (St.onto hW5 HS3.out)
   have HNn5 := hide (Nx.onto hW5 HNn4.out)
   clear HNn4
   clear hW5 HS3
   refine rgn HS5.out [0, 3] fun W6 hW6 => ?_
   have HS6 := hide (St.onto hW6 HS5.out.dr)
   have HNn6 := hide (Nx.onto hW6 HNn5.out.dr)
   clear HNn5
   clear hW6 HS5
   refine tK 0 (kS HS6.out [0, 3]) ?_
   refine tK 2 (kS HS6.out [0, 3]) ?_
   refine rY 1 fun K hK => ?_
   go_simp
   refine (next_in (n := l.length) ⟨_, _, _, rfl⟩ (by omega) hlen).mono ?_
   rintro e w8 ⟨⟨j7, rfl, hj7, hl7, hp7⟩, hb8⟩
   have HS8 := hide (HS6.out.call hb8)
   have HNn8 := hide (HNn6.out.call hb8)
   clear HNn6
   clear hb8 HS6
   go_simp
   refine onK hK (kS HS8.out [0, 3]) ?_
   clear hK K
   refine rY 3 fun K hK => ?_
   have p1 := rG HS8 1
   go_simp
   refine onW hK (kS (HS8.out.st3 1 rfl _ _ _) [0, 3]) fun W9 hW9 => ?_
   clear hK K
   have HS9 := onS hW9 (HS8.out.st3 1 rfl _ _ _)
   have HNn9 := hide (Nx.onto hW9 (HNn8.out.st3 (by simp) _ _ _))
   clear HNn8
   clear hW9 HS8
   clear p1
   refine rY 4 fun K hK => ?_
   have p2 := rG HS9 2
   go_simp
   refine onW hK (kS (HS9.out.st3 2 rfl _ _ _) [0, 3]) fun W10 hW10 => ?_
   clear hK K
   have HS10 := onS hW10 (HS9.out.st3 2 rfl _ _ _)
   have HNn10 := hide (Nx.onto hW10 (HNn9.out.st3 (by simp) _ _ _))
   clear HNn9
   clear hW10 HS9
   clear p2
   refine wpAnyH_done (by kernel_rfl) ?_ _
   go_wp2_with fail
   refine namedPost fun W11 hW11 => ?_
   have HS11 := hide (St.onto hW11 HS10.out)
   have HNn11 := hide (Nx.onto hW11 HNn10.out)
   clear HNn10
   clear hW11 HS10
   exact ended_pn rfl rfl rfl (HS11.out.get 1 rfl) (HS11.out.get 2 rfl) ⟨⟨_, _, _, _, _, _, _, _, rfl, HNn11.out.out, ⟨by omega, by omega, by omega⟩, by rw [cntLeaf]; omega⟩, HS11.out.below⟩
  clear hy1
  go_wp2_with fail
  have lv12 := lV HS2
  refine named fun W12 hW12 => ?_
  have HS12 := onS hW12 HS2.out.va
  clear hW12 HS2
  clear p0
  obtain ⟨t13, ht13⟩ : ∃ t, tokAt l i bad = t := ⟨_, rfl⟩
  have hok13 := tokAt_ok hi.2.2 i bad
  rw [ht13] at hok13
  obtain ⟨hkb13, hz13, hone13⟩ := hok13
  have HT13 := hide ht13
  clear ht13
  have Hone13 := hide hone13
  clear hone13
  have hfa13 := fieldT0 t13.kind t13.text
  have hfb13 := fieldT1 t13.kind t13.text
  refine (tok_any (hi.below HS12.out.below)).mono ?_
  rintro e w14 ⟨rfl, hb14⟩
  rw [HT13.out]
  have HS14 := hide (HS12.out.call hb14)
  clear hb14 HS12
  have p0 := rD HS14
  go_wp2_with fail
  have lv15 := lV HS14
  refine named fun W15 hW15 => ?_
  have HS15 := onS hW15 HS14.out.va
  clear hW15 HS14
  clear p0
  refine (op_any ⟨#[46]⟩ (hi.below HS15.out.below)).mono ?_
  rintro e w16 ⟨rfl, hb16⟩
  have HS16 := hide (HS15.out.call hb16)
  clear hb16 HS15
  have p0 := rD HS16
  cases hq17 : opB (tokAt l i bad) ⟨#[46]⟩
  case true =>
   obtain ⟨rfl, hlt18⟩ := opB_in hq17
   clear hq17
   go_wp2_with fail
   refine (next_in (n := l.length) ⟨_, _, _, rfl⟩ (by omega) hlen).mono ?_
   rintro e w20 ⟨⟨j19, rfl, hj19, hl19, hp19⟩, hb20⟩
   have HS20 := hide (HS16.out.call hb20)
   clear hb20 HS16
   clear p0
   have p0 := rD HS20
   go_wp2_with fail
   have lv21 := lV HS20
   refine named fun W21 hW21 => ?_
   have HS21 := onS hW21 HS20.out.va
   clear hW21 HS20
   clear p0
   obtain ⟨t22, ht22⟩ : ∃ t, tokAt l j19 false = t := ⟨_, rfl⟩
   have hok22 := tokAt_ok hi.2.2 j19 false
   rw [ht22] at hok22
   obtain ⟨hkb22, hz22, hone22⟩ := hok22
   have HT22 := hide ht22
   clear ht22
   have Hone22 := hide hone22
   clear hone22
   have hfa22 := fieldT0 t22.kind t22.text
   have hfb22 := fieldT1 t22.kind t22.text
   refine (tok_any (hi.below HS21.out.below)).mono ?_
   rintro e w23 ⟨rfl, hb23⟩
   rw [HT22.out]
   have HS23 := hide (HS21.out.call hb23)
   clear hb23 HS21
   have p0 := rD HS23
   by_cases hk24 : t22.kind = 7
   ·
    have he25 : (t22.kind == 7) = true := by simpa using hk24
    have hn25 : (t22.kind != 7) = false := by simpa using hk24
    have HK25 := hide hk24
    clear hk24
    go_wp2_with fail
    refine (HK.out.str (hi.below HS23.out.below) (by omega) (by omega)).mono ?_
    rintro e w26 ⟨⟨i26, bad26, d26, k26, s26, y26, m26, c26, rfl, hn26, ⟨hi26, hl26, hp26⟩, hc26⟩, hb26⟩
    have HS26 := hide (HS23.out.call hb26)
    have HNx26 := hide (show Nx w w26 [w.heap.size, w.heap.size + 1, w.heap.size + 1 + 1, w2.heap.size, w14.heap.size, w20.heap.size] _ _ from Nx.made hn26 HS23.out)
    clear hn26 hb26 HS23
    clear p0
    have p0 := rD HS26
    go_wp2_with fail
    have lv27 := lV HS26
    refine namedWp fun W27 hW27 => ?_
    have HS27 := onS hW27 HS26.out.va.va
    have HNx27 := hide (Nx.onto hW27 ((HNx26.out.var (g := w26.heap.size) (by simp) _).var (g := w26.heap.size + 1) (by simp) _))
    clear HNx26
    clear hW27 HS26
    clear p0
    have HNz28 := hide (show Nx w W27 [w.heap.size, w.heap.size + 1, w.heap.size + 1 + 1, w2.heap.size, w14.heap.size, w20.heap.size, w26.heap.size, w26.heap.size + 1] (Nd.mk 0 ⟨#[]⟩ .nil) (.agg #[.int .i64 0, .string ⟨#[]⟩, .slice none 0 0]) from Nx.leaf (by omega) (by decide))
    refine namedWp fun W29 hW29 => ?_
    have HS29 := hide (St.onto hW29 HS27.out)
    have HNx29 := hide (Nx.onto hW29 HNx27.out)
    have HNz29 := hide (Nx.onto hW29 HNz28.out)
    clear HNx27 HNz28
    clear hW29 HS27
    refine rgn HS29.out [6, 7] fun W30 hW30 => ?_
    have HS30 := hide (St.onto hW30 HS29.out.dr)
    have HNx30 := hide (Nx.onto hW30 HNx29.out.dr)
    have HNz30 := hide (Nx.onto hW30 HNz29.out.dr)
    clear HNx29 HNz29
    clear hW30 HS29
    refine tK 0 (kS HS30.out [6, 7]) ?_
    refine tK 1 (kS HS30.out [6, 7]) ?_
    refine tK 2 (kS HS30.out [6, 7]) ?_
    refine rY2 3 5 (fun K hK => ?_) (fun K hK => ?_)
    ·
     go_simp
     refine onW hK (kS (HS30.out.al _) [6, 7]) fun W31 hW31 => ?_
     clear hK K
     have HS31 := hide (St.onto hW31 (HS30.out.al _))
     have HNx31 := hide (Nx.onto hW31 (HNx30.out.al _))
     have HNz31 := hide (Nx.onto hW31 (HNz30.out.al _))
     have HNres31 := hide (show Nx w W31 [w.heap.size, w.heap.size + 1, w.heap.size + 1 + 1, w2.heap.size, w14.heap.size, w20.heap.size, w26.heap.size, w26.heap.size + 1] (Nd.of 22 ⟨#[]⟩ [(Nd.mk 0 ⟨#[]⟩ .nil), d26]) (.agg #[.int .i64 22, .string ⟨#[]⟩, .slice (some ⟨W30.heap.size, 0, none⟩) 2 2]) from hW31 ▸ (Sx.join (Rx.lit (Rx.cons HNz30.out (Rx.cons HNx30.out (Rx.nil))) HS30.out rfl (by simp [maxLen])) (by omega) (by decide)))
     clear HNx30 HNz30
     clear hW31 HS30
     refine tK 4 (kS HS31.out [6, 7]) ?_
     refine rY 5 fun K hK => ?_
     have p1 := rG HS31 1
     go_simp
     refine onW hK (kS (HS31.out.st3 1 rfl _ _ _) [6, 7]) fun W32 hW32 => ?_
     clear hK K
     have HS32 := onS hW32 (HS31.out.st3 1 rfl _ _ _)
     have HNx32 := hide (Nx.onto hW32 (HNx31.out.st3 (by simp) _ _ _))
     have HNz32 := hide (Nx.onto hW32 (HNz31.out.st3 (by simp) _ _ _))
     have HNres32 := hide (Nx.onto hW32 (HNres31.out.st3 (by simp) _ _ _))
     clear HNx31 HNz31 HNres31
     clear hW32 HS31
     clear p1
     refine rY 6 fun K hK => ?_
     have p2 := rG HS32 2
     go_simp
     refine onW hK (kS (HS32.out.st3 2 rfl _ _ _) [6, 7]) fun W33 hW33 => ?_
     clear hK K
     have HS33 := onS hW33 (HS32.out.st3 2 rfl _ _ _)
     have HNx33 := hide (Nx.onto hW33 (HNx32.out.st3 (by simp) _ _ _))
     have HNz33 := hide (Nx.onto hW33 (HNz32.out.st3 (by simp) _ _ _))
     have HNres33 := hide (Nx.onto hW33 (HNres32.out.st3 (by simp) _ _ _))
     clear HNx32 HNz32 HNres32
     clear hW33 HS32
     clear p2
     refine wpAnyH_done (by kernel_rfl) ?_ _
     go_wp2_with fail
     refine namedPost fun W34 hW34 => ?_
     have HS34 := hide (St.onto hW34 HS33.out)
     have HNx34 := hide (Nx.onto hW34 HNx33.out)
     have HNz34 := hide (Nx.onto hW34 HNz33.out)
     have HNres34 := hide (Nx.onto hW34 HNres33.out)
     clear HNx33 HNz33 HNres33
     clear hW34 HS33
     exact ended_pn rfl rfl rfl (HS34.out.get 1 rfl) (HS34.out.get 2 rfl) ⟨⟨_, _, _, _, _, _, _, _, rfl, HNres34.out.out, ⟨by omega, by omega, by omega⟩, by rw [cnt2, cntLeaf]; omega⟩, HS34.out.below⟩
    have p1 := rG HS30 1
    go_simp
    refine onW hK (kS (HS30.out.st3 1 rfl _ _ _) [6, 7]) fun W35 hW35 => ?_
    clear hK K
    have HS35 := onS hW35 (HS30.out.st3 1 rfl _ _ _)
    have HNx35 := hide (Nx.onto hW35 (HNx30.out.st3 (by simp) _ _ _))
    have HNz35 := hide (Nx.onto hW35 (HNz30.out.st3 (by simp) _ _ _))
    clear HNx30 HNz30
    clear hW35 HS30
    clear p1
    refine rY 3 fun K hK => ?_
    go_simp
    refine onW hK (kS (HS35.out.al _) [6, 7]) fun W36 hW36 => ?_
    clear hK K
    have HS36 := hide (St.onto hW36 (HS35.out.al _))
    have HNx36 := hide (Nx.onto hW36 (HNx35.out.al _))
    have HNz36 := hide (Nx.onto hW36 (HNz35.out.al _))
    have HNres36 := hide (show Nx w W36 [w.heap.size, w.heap.size + 1, w.heap.size + 1 + 1, w2.heap.size, w14.heap.size, w20.heap.size, w26.heap.size, w26.heap.size + 1] (Nd.of 22 ⟨#[]⟩ [(Nd.mk 0 ⟨#[]⟩ .nil), d26]) (.agg #[.int .i64 22, .string ⟨#[]⟩, .slice (some ⟨W35.heap.size, 0, none⟩) 2 2]) from hW36 ▸ (Sx.join (Rx.lit (Rx.cons HNz35.out (Rx.cons HNx35.out (Rx.nil))) HS35.out rfl (by simp [maxLen])) (by omega) (by decide)))
    clear HNx35 HNz35
    clear hW36 HS35
    refine tK 4 (kS HS36.out [6, 7]) ?_
    refine rY 6 fun K hK => ?_
    have p2 := rG HS36 2
    go_simp
    refine onW hK (kS (HS36.out.st3 2 rfl _ _ _) [6, 7]) fun W37 hW37 => ?_
    clear hK K
    have HS37 := onS hW37 (HS36.out.st3 2 rfl _ _ _)
    have HNx37 := hide (Nx.onto hW37 (HNx36.out.st3 (by simp) _ _ _))
    have HNz37 := hide (Nx.onto hW37 (HNz36.out.st3 (by simp) _ _ _))
    have HNres37 := hide (Nx.onto hW37 (HNres36.out.st3 (by simp) _ _ _))
    clear HNx36 HNz36 HNres36
    clear hW37 HS36
    clear p2
    refine wpAnyH_done (by kernel_rfl) ?_ _
    go_wp2_with fail
    refine namedPost fun W38 hW38 => ?_
    have HS38 := hide (St.onto hW38 HS37.out)
    have HNx38 := hide (Nx.onto hW38 HNx37.out)
    have HNz38 := hide (Nx.onto hW38 HNz37.out)
    have HNres38 := hide (Nx.onto hW38 HNres37.out)
    clear HNx37 HNz37 HNres37
    clear hW38 HS37
    exact ended_pn rfl rfl rfl (HS38.out.get 1 rfl) (HS38.out.get 2 rfl) ⟨⟨_, _, _, _, _, _, _, _, rfl, HNres38.out.out, ⟨by omega, by omega, by omega⟩, by rw [cnt2, cntLeaf]; omega⟩, HS38.out.below⟩
   have he39 : (t22.kind == 7) = false := by simpa using hk24
   have hn39 : (t22.kind != 7) = true := by simpa using hk24
   clear hk24
   go_wp2_with fail
   refine (tok_any (hi.below HS23.out.below)).mono ?_
   rintro e w40 ⟨rfl, hb40⟩
   rw [HT22.out]
   have HS40 := hide (HS23.out.call hb40)
   clear hb40 HS23
   clear p0
   have p0 := rD HS40
   by_cases hk41 : t22.kind = 12
   ·
    have he42 : (t22.kind == 12) = true := by simpa using hk41
    have hn42 : (t22.kind != 12) = false := by simpa using hk41
    have HK42 := hide hk41
    clear hk41
    go_wp2_with fail
    refine (HK.out.str (hi.below HS40.out.below) (by omega) (by omega)).mono ?_
    rintro e w43 ⟨⟨i43, bad43, d43, k43, s43, y43, m43, c43, rfl, hn43, ⟨hi43, hl43, hp43⟩, hc43⟩, hb43⟩
    have HS43 := hide (HS40.out.call hb43)
    have HNx43 := hide (show Nx w w43 [w.heap.size, w.heap.size + 1, w.heap.size + 1 + 1, w2.heap.size, w14.heap.size, w20.heap.size] _ _ from Nx.made hn43 HS40.out)
    clear hn43 hb43 HS40
    clear p0
    have p0 := rD HS43
    go_wp2_with fail
    have lv44 := lV HS43
    refine namedWp fun W44 hW44 => ?_
    have HS44 := onS hW44 HS43.out.va.va
    have HNx44 := hide (Nx.onto hW44 ((HNx43.out.var (g := w43.heap.size) (by simp) _).var (g := w43.heap.size + 1) (by simp) _))
    clear HNx43
    clear hW44 HS43
    clear p0
    have HNz45 := hide (show Nx w W44 [w.heap.size, w.heap.size + 1, w.heap.size + 1 + 1, w2.heap.size, w14.heap.size, w20.heap.size, w43.heap.size, w43.heap.size + 1] (Nd.mk 0 ⟨#[]⟩ .nil) (.agg #[.int .i64 0, .string ⟨#[]⟩, .slice none 0 0]) from Nx.leaf (by omega) (by decide))
    refine namedWp fun W46 hW46 => ?_
    have HS46 := hide (St.onto hW46 HS44.out)
    have HNx46 := hide (Nx.onto hW46 HNx44.out)
    have HNz46 := hide (Nx.onto hW46 HNz45.out)
    clear HNx44 HNz45
    clear hW46 HS44
    refine rgn HS46.out [6, 7] fun W47 hW47 => ?_
    have HS47 := hide (St.onto hW47 HS46.out.dr)
    have HNx47 := hide (Nx.onto hW47 HNx46.out.dr)
    have HNz47 := hide (Nx.onto hW47 HNz46.out.dr)
    clear HNx46 HNz46
    clear hW47 HS46
    refine tK 0 (kS HS47.out [6, 7]) ?_
    refine tK 1 (kS HS47.out [6, 7]) ?_
    refine tK 2 (kS HS47.out [6, 7]) ?_
    refine rY2 3 5 (fun K hK => ?_) (fun K hK => ?_)
    ·
     go_simp
     refine onW hK (kS (HS47.out.al _) [6, 7]) fun W48 hW48 => ?_
     clear hK K
     have HS48 := hide (St.onto hW48 (HS47.out.al _))
     have HNx48 := hide (Nx.onto hW48 (HNx47.out.al _))
     have HNz48 := hide (Nx.onto hW48 (HNz47.out.al _))
     have HNres48 := hide (show Nx w W48 [w.heap.size, w.heap.size + 1, w.heap.size + 1 + 1, w2.heap.size, w14.heap.size, w20.heap.size, w43.heap.size, w43.heap.size + 1] (Nd.of 22 ⟨#[]⟩ [(Nd.mk 0 ⟨#[]⟩ .nil), d43]) (.agg #[.int .i64 22, .string ⟨#[]⟩, .slice (some ⟨W47.heap.size, 0, none⟩) 2 2]) from hW48 ▸ (Sx.join (Rx.lit (Rx.cons HNz47.out (Rx.cons HNx47.out (Rx.nil))) HS47.out rfl (by simp [maxLen])) (by omega) (by decide)))
     clear HNx47 HNz47
     clear hW48 HS47
     refine tK 4 (kS HS48.out [6, 7]) ?_
     refine rY 5 fun K hK => ?_
     have p1 := rG HS48 1
     go_simp
     refine onW hK (kS (HS48.out.st3 1 rfl _ _ _) [6, 7]) fun W49 hW49 => ?_
     clear hK K
     have HS49 := onS hW49 (HS48.out.st3 1 rfl _ _ _)
     have HNx49 := hide (Nx.onto hW49 (HNx48.out.st3 (by simp) _ _ _))
     have HNz49 := hide (Nx.onto hW49 (HNz48.out.st3 (by simp) _ _ _))
     have HNres49 := hide (Nx.onto hW49 (HNres48.out.st3 (by simp) _ _ _))
     clear HNx48 HNz48 HNres48
     clear hW49 HS48
     clear p1
     refine rY 6 fun K hK => ?_
     have p2 := rG HS49 2
     go_simp
     refine onW hK (kS (HS49.out.st3 2 rfl _ _ _) [6, 7]) fun W50 hW50 => ?_
     clear hK K
     have HS50 := onS hW50 (HS49.out.st3 2 rfl _ _ _)
     have HNx50 := hide (Nx.onto hW50 (HNx49.out.st3 (by simp) _ _ _))
     have HNz50 := hide (Nx.onto hW50 (HNz49.out.st3 (by simp) _ _ _))
     have HNres50 := hide (Nx.onto hW50 (HNres49.out.st3 (by simp) _ _ _))
     clear HNx49 HNz49 HNres49
     clear hW50 HS49
     clear p2
     refine wpAnyH_done (by kernel_rfl) ?_ _
     go_wp2_with fail
     refine namedPost fun W51 hW51 => ?_
     have HS51 := hide (St.onto hW51 HS50.out)
     have HNx51 := hide (Nx.onto hW51 HNx50.out)
     have HNz51 := hide (Nx.onto hW51 HNz50.out)
     have HNres51 := hide (Nx.onto hW51 HNres50.out)
     clear HNx50 HNz50 HNres50
     clear hW51 HS50
     exact ended_pn rfl rfl rfl (HS51.out.get 1 rfl) (HS51.out.get 2 rfl) ⟨⟨_, _, _, _, _, _, _, _, rfl, HNres51.out.out, ⟨by omega, by omega, by omega⟩, by rw [cnt2, cntLeaf]; omega⟩, HS51.out.below⟩
    have p1 := rG HS47 1
    go_simp
    refine onW hK (kS (HS47.out.st3 1 rfl _ _ _) [6, 7]) fun W52 hW52 => ?_
    clear hK K
    have HS52 := onS hW52 (HS47.out.st3 1 rfl _ _ _)
    have HNx52 := hide (Nx.onto hW52 (HNx47.out.st3 (by simp) _ _ _))
    have HNz52 := hide (Nx.onto hW52 (HNz47.out.st3 (by simp) _ _ _))
    clear HNx47 HNz47
    clear hW52 HS47
    clear p1
    refine rY 3 fun K hK => ?_
    go_simp
    refine onW hK (kS (HS52.out.al _) [6, 7]) fun W53 hW53 => ?_
    clear hK K
    have HS53 := hide (St.onto hW53 (HS52.out.al _))
    have HNx53 := hide (Nx.onto hW53 (HNx52.out.al _))
    have HNz53 := hide (Nx.onto hW53 (HNz52.out.al _))
    have HNres53 := hide (show Nx w W53 [w.heap.size, w.heap.size + 1, w.heap.size + 1 + 1, w2.heap.size, w14.heap.size, w20.heap.size, w43.heap.size, w43.heap.size + 1] (Nd.of 22 ⟨#[]⟩ [(Nd.mk 0 ⟨#[]⟩ .nil), d43]) (.agg #[.int .i64 22, .string ⟨#[]⟩, .slice (some ⟨W52.heap.size, 0, none⟩) 2 2]) from hW53 ▸ (Sx.join (Rx.lit (Rx.cons HNz52.out (Rx.cons HNx52.out (Rx.nil))) HS52.out rfl (by simp [maxLen])) (by omega) (by decide)))
    clear HNx52 HNz52
    clear hW53 HS52
    refine tK 4 (kS HS53.out [6, 7]) ?_
    refine rY 6 fun K hK => ?_
    have p2 := rG HS53 2
    go_simp
    refine onW hK (kS (HS53.out.st3 2 rfl _ _ _) [6, 7]) fun W54 hW54 => ?_
    clear hK K
    have HS54 := onS hW54 (HS53.out.st3 2 rfl _ _ _)
    have HNx54 := hide (Nx.onto hW54 (HNx53.out.st3 (by simp) _ _ _))
    have HNz54 := hide (Nx.onto hW54 (HNz53.out.st3 (by simp) _ _ _))
    have HNres54 := hide (Nx.onto hW54 (HNres53.out.st3 (by simp) _ _ _))
    clear HNx53 HNz53 HNres53
    clear hW54 HS53
    clear p2
    refine wpAnyH_done (by kernel_rfl) ?_ _
    go_wp2_with fail
    refine namedPost fun W55 hW55 => ?_
    have HS55 := hide (St.onto hW55 HS54.out)
    have HNx55 := hide (Nx.onto hW55 HNx54.out)
    have HNz55 := hide (Nx.onto hW55 HNz54.out)
    have HNres55 := hide (Nx.onto hW55 HNres54.out)
    clear HNx54 HNz54 HNres54
    clear hW55 HS54
    exact ended_pn rfl rfl rfl (HS55.out.get 1 rfl) (HS55.out.get 2 rfl) ⟨⟨_, _, _, _, _, _, _, _, rfl, HNres55.out.out, ⟨by omega, by omega, by omega⟩, by rw [cnt2, cntLeaf]; omega⟩, HS55.out.below⟩
   have he56 : (t22.kind == 12) = false := by simpa using hk41
   have hn56 : (t22.kind != 12) = true := by simpa using hk41
   clear hk41
   go_wp2_with fail
   refine namedPost fun W57 hW57 => ?_
   have HS57 := onS hW57 ((HS40.out.st3 1 rfl _ _ _).st3 2 rfl _ _ _)
   have HNres57 := hide (show Nx w W57 [w.heap.size, w.heap.size + 1, w.heap.size + 1 + 1, w2.heap.size, w14.heap.size, w20.heap.size] (Nd.mk 1 ⟨#[]⟩ .nil) (.agg #[.int .i64 1, .string ⟨#[]⟩, .slice none 0 0]) from hW57 ▸ (Nx.leaf (by omega) (by decide)))
   clear hW57 HS40
   clear p0
   exact ended_pn rfl rfl rfl (HS57.out.get 1 rfl) (HS57.out.get 2 rfl) ⟨⟨_, _, _, _, _, _, _, _, rfl, HNres57.out.out, ⟨by omega, by omega, by omega⟩, by rw [cntLeaf]; omega⟩, HS57.out.below⟩
  clear hq17
  by_cases hk58 : t13.kind = 12
  ·
   have he59 : (t13.kind == 12) = true := by simpa using hk58
   have hn59 : (t13.kind != 12) = false := by simpa using hk58
   have HK59 := hide hk58
   clear hk58
   obtain ⟨rfl, hlt60⟩ := tokAt_kind (l := l) (i := i) (b := bad) (by rw [HT13.out, HK59.out]; decide)
   go_wp2_with fail
   refine (next_in (n := l.length) ⟨_, _, _, rfl⟩ (by omega) hlen).mono ?_
   rintro e w62 ⟨⟨j61, rfl, hj61, hl61, hp61⟩, hb62⟩
   have HS62 := hide (HS16.out.call hb62)
   clear hb62 HS16
   clear p0
   have p0 := rD HS62
   go_wp2_with fail
   obtain ⟨t63, ht63⟩ : ∃ t, tokAt l j61 false = t := ⟨_, rfl⟩
   have hok63 := tokAt_ok hi.2.2 j61 false
   rw [ht63] at hok63
   obtain ⟨hkb63, hz63, hone63⟩ := hok63
   have HT63 := hide ht63
   clear ht63
   have Hone63 := hide hone63
   clear hone63
   have hfa63 := fieldT0 t63.kind t63.text
   have hfb63 := fieldT1 t63.kind t63.text
   refine (tok_any (hi.below HS62.out.below)).mono ?_
   rintro e w64 ⟨rfl, hb64⟩
   rw [HT63.out]
   have HS64 := hide (HS62.out.call hb64)
   clear hb64 HS62
   clear p0
   have p0 := rD HS64
   by_cases hk65 : t63.kind = 7
   ·
    have he66 : (t63.kind == 7) = true := by simpa using hk65
    have hn66 : (t63.kind != 7) = false := by simpa using hk65
    have HK66 := hide hk65
    clear hk65
    have h127 : (t13.kind == 7) = false := by rw [HK59.out]; rfl
    go_wp2_with fail
    refine (Hstr.out (hi.below HS64.out.below) (by omega) (by omega)).mono ?_
    rintro e w67 ⟨⟨i67, bad67, d67, k67, s67, y67, m67, c67, rfl, hn67, ⟨hi67, hl67, hp67⟩, hc67⟩, hb67⟩
    have HS67 := hide (HS64.out.call hb67)
    have HNx67 := hide (show Nx w w67 [w.heap.size, w.heap.size + 1, w.heap.size + 1 + 1, w2.heap.size, w14.heap.size] _ _ from Nx.made hn67 HS64.out)
    clear hn67 hb67 HS64
    clear p0
    have p0 := rD HS67
    go_wp2_with fail
    have lv68 := lV HS67
    refine namedWp fun W68 hW68 => ?_
    have HS68 := onS hW68 HS67.out.va.va
    have HNx68 := hide (Nx.onto hW68 ((HNx67.out.var (g := w67.heap.size) (by simp) _).var (g := w67.heap.size + 1) (by simp) _))
    clear HNx67
    clear hW68 HS67
    clear p0
    refine rgn HS68.out [5, 6] fun W69 hW69 => ?_
    have HS69 := hide (St.onto hW69 HS68.out.dr)
    have HNx69 := hide (Nx.onto hW69 HNx68.out.dr)
    clear HNx68
    clear hW69 HS68
    refine tK 0 (kS HS69.out [5, 6]) ?_
    refine tK 1 (kS HS69.out [5, 6]) ?_
    refine rY 2 fun K hK => ?_
    have p1 := rG HS69 1
    go_simp
    refine onW hK (kS (HS69.out.st3 1 rfl _ _ _) [5, 6]) fun W70 hW70 => ?_
    clear hK K
    have HS70 := onS hW70 (HS69.out.st3 1 rfl _ _ _)
    have HNx70 := hide (Nx.onto hW70 (HNx69.out.st3 (by simp) _ _ _))
    clear HNx69
    clear hW70 HS69
    clear p1
    refine rY 3 fun K hK => ?_
    have p2 := rG HS70 2
    go_simp
    refine onW hK (kS (HS70.out.st3 2 rfl _ _ _) [5, 6]) fun W71 hW71 => ?_
    clear hK K
    have HS71 := onS hW71 (HS70.out.st3 2 rfl _ _ _)
    have HNx71 := hide (Nx.onto hW71 (HNx70.out.st3 (by simp) _ _ _))
    clear HNx70
    clear hW71 HS70
    clear p2
    refine wpAnyH_done (by kernel_rfl) ?_ _
    go_wp2_with fail
    refine namedPost fun W72 hW72 => ?_
    have HS72 := hide (St.onto hW72 HS71.out)
    have HNx72 := hide (Nx.onto hW72 HNx71.out)
    clear HNx71
    clear hW72 HS71
    exact ended_pn rfl rfl rfl (HS72.out.get 1 rfl) (HS72.out.get 2 rfl) ⟨⟨_, _, _, _, _, _, _, _, rfl, HNx72.out.out, ⟨by omega, by omega, by omega⟩, by omega⟩, HS72.out.below⟩
   have he73 : (t63.kind == 7) = false := by simpa using hk65
   have hn73 : (t63.kind != 7) = true := by simpa using hk65
   clear hk65
   go_wp2_with fail
   have HNres74 := hide (show Nx w w64 [w.heap.size, w.heap.size + 1, w.heap.size + 1 + 1, w2.heap.size, w14.heap.size] (Nd.mk 8 t13.text .nil) (.agg #[.int .i64 8, .string t13.text, .slice none 0 0]) from Nx.leaf (by omega) (by simp only [maxLen]; omega))
   refine namedWp fun W75 hW75 => ?_
   have HS75 := hide (St.onto hW75 HS64.out)
   have HNres75 := hide (Nx.onto hW75 HNres74.out)
   clear HNres74
   clear hW75 HS64
   clear p0
   refine rgn HS75.out [0, 4] fun W76 hW76 => ?_
   have HS76 := hide (St.onto hW76 HS75.out.dr)
   have HNres76 := hide (Nx.onto hW76 HNres75.out.dr)
   clear HNres75
   clear hW76 HS75
   refine tK 0 (kS HS76.out [0, 4]) ?_
   refine tK 2 (kS HS76.out [0, 4]) ?_
   refine tK 3 (kS HS76.out [0, 4]) ?_
   refine tK 4 (kS HS76.out [0, 4]) ?_
   refine rY 1 fun K hK => ?_
   go_simp
   refine (next_in (n := l.length) ⟨_, _, _, rfl⟩ (by omega) hlen).mono ?_
   rintro e w78 ⟨⟨j77, rfl, hj77, hl77, hp77⟩, hb78⟩
   have HS78 := hide (HS76.out.call hb78)
   have HNres78 := hide (HNres76.out.call hb78)
   clear HNres76
   clear hb78 HS76
   go_simp
   refine onK hK (kS HS78.out [0, 4]) ?_
   clear hK K
   refine rY 5 fun K hK => ?_
   have p1 := rG HS78 1
   go_simp
   refine onW hK (kS (HS78.out.st3 1 rfl _ _ _) [0, 4]) fun W79 hW79 => ?_
   clear hK K
   have HS79 := onS hW79 (HS78.out.st3 1 rfl _ _ _)
   have HNres79 := hide (Nx.onto hW79 (HNres78.out.st3 (by simp) _ _ _))
   clear HNres78
   clear hW79 HS78
   clear p1
   refine rY 6 fun K hK => ?_
   have p2 := rG HS79 2
   go_simp
   refine onW hK (kS (HS79.out.st3 2 rfl _ _ _) [0, 4]) fun W80 hW80 => ?_
   clear hK K
   have HS80 := onS hW80 (HS79.out.st3 2 rfl _ _ _)
   have HNres80 := hide (Nx.onto hW80 (HNres79.out.st3 (by simp) _ _ _))
   clear HNres79
   clear hW80 HS79
   clear p2
   refine wpAnyH_done (by kernel_rfl) ?_ _
   go_wp2_with fail
   refine namedPost fun W81 hW81 => ?_
   have HS81 := hide (St.onto hW81 HS80.out)
   have HNres81 := hide (Nx.onto hW81 HNres80.out)
   clear HNres80
   clear hW81 HS80
   exact ended_pn rfl rfl rfl (HS81.out.get 1 rfl) (HS81.out.get 2 rfl) ⟨⟨_, _, _, _, _, _, _, _, rfl, HNres81.out.out, ⟨by omega, by omega, by omega⟩, by rw [cntLeaf]; omega⟩, HS81.out.below⟩
  have he82 : (t13.kind == 12) = false := by simpa using hk58
  have hn82 : (t13.kind != 12) = true := by simpa using hk58
  clear hk58
  by_cases hk83 : t13.kind = 7
  ·
   have he84 : (t13.kind == 7) = true := by simpa using hk83
   have hn84 : (t13.kind != 7) = false := by simpa using hk83
   have HK84 := hide hk83
   clear hk83
   go_wp2_with fail
   refine (Hstr.out (hi.below HS16.out.below) (by omega) (by omega)).mono ?_
   rintro e w85 ⟨⟨i85, bad85, d85, k85, s85, y85, m85, c85, rfl, hn85, ⟨hi85, hl85, hp85⟩, hc85⟩, hb85⟩
   have HS85 := hide (HS16.out.call hb85)
   have HNx85 := hide (show Nx w w85 [w.heap.size, w.heap.size + 1, w.heap.size + 1 + 1, w2.heap.size, w14.heap.size] _ _ from Nx.made hn85 HS16.out)
   clear hn85 hb85 HS16
   clear p0
   have p0 := rD HS85
   go_wp2_with fail
   have lv86 := lV HS85
   refine namedWp fun W86 hW86 => ?_
   have HS86 := onS hW86 HS85.out.va.va
   have HNx86 := hide (Nx.onto hW86 ((HNx85.out.var (g := w85.heap.size) (by simp) _).var (g := w85.heap.size + 1) (by simp) _))
   clear HNx85
   clear hW86 HS85
   clear p0
   refine rgn HS86.out [5, 6] fun W87 hW87 => ?_
   have HS87 := hide (St.onto hW87 HS86.out.dr)
   have HNx87 := hide (Nx.onto hW87 HNx86.out.dr)
   clear HNx86
   clear hW87 HS86
   refine tK 0 (kS HS87.out [5, 6]) ?_
   refine tK 1 (kS HS87.out [5, 6]) ?_
   refine rY 2 fun K hK => ?_
   have p1 := rG HS87 1
   go_simp
   refine onW hK (kS (HS87.out.st3 1 rfl _ _ _) [5, 6]) fun W88 hW88 => ?_
   clear hK K
   have HS88 := onS hW88 (HS87.out.st3 1 rfl _ _ _)
   have HNx88 := hide (Nx.onto hW88 (HNx87.out.st3 (by simp) _ _ _))
   clear HNx87
   clear hW88 HS87
   clear p1
   refine rY 3 fun K hK => ?_
   have p2 := rG HS88 2
   go_simp
   refine onW hK (kS (HS88.out.st3 2 rfl _ _ _) [5, 6]) fun W89 hW89 => ?_
   clear hK K
   have HS89 := onS hW89 (HS88.out.st3 2 rfl _ _ _)
   have HNx89 := hide (Nx.onto hW89 (HNx88.out.st3 (by simp) _ _ _))
   clear HNx88
   clear hW89 HS88
   clear p2
   refine wpAnyH_done (by kernel_rfl) ?_ _
   go_wp2_with fail
   refine namedPost fun W90 hW90 => ?_
   have HS90 := hide (St.onto hW90 HS89.out)
   have HNx90 := hide (Nx.onto hW90 HNx89.out)
   clear HNx89
   clear hW90 HS89
   exact ended_pn rfl rfl rfl (HS90.out.get 1 rfl) (HS90.out.get 2 rfl) ⟨⟨_, _, _, _, _, _, _, _, rfl, HNx90.out.out, ⟨by omega, by omega, by omega⟩, by omega⟩, HS90.out.below⟩
  have he91 : (t13.kind == 7) = false := by simpa using hk83
  have hn91 : (t13.kind != 7) = true := by simpa using hk83
  clear hk83
  by_cases hk92 : t13.kind = 13
  ·
   have he93 : (t13.kind == 13) = true := by simpa using hk92
   have hn93 : (t13.kind != 13) = false := by simpa using hk92
   have HK93 := hide hk92
   clear hk92
   go_wp2_with fail
   refine (Hbracket.out (hi.below HS16.out.below) (by omega) (by omega)).mono ?_
   rintro e w94 ⟨⟨i94, bad94, d94, k94, s94, y94, m94, c94, rfl, hn94, ⟨hi94, hl94, hp94⟩, hc94⟩, hb94⟩
   have HS94 := hide (HS16.out.call hb94)
   have HNx94 := hide (show Nx w w94 [w.heap.size, w.heap.size + 1, w.heap.size + 1 + 1, w2.heap.size, w14.heap.size] _ _ from Nx.made hn94 HS16.out)
   clear hn94 hb94 HS16
   clear p0
   have p0 := rD HS94
   go_wp2_with fail
   have lv95 := lV HS94
   refine namedWp fun W95 hW95 => ?_
   have HS95 := onS hW95 HS94.out.va.va
   have HNx95 := hide (Nx.onto hW95 ((HNx94.out.var (g := w94.heap.size) (by simp) _).var (g := w94.heap.size + 1) (by simp) _))
   clear HNx94
   clear hW95 HS94
   clear p0
   refine rgn HS95.out [5, 6] fun W96 hW96 => ?_
   have HS96 := hide (St.onto hW96 HS95.out.dr)
   have HNx96 := hide (Nx.onto hW96 HNx95.out.dr)
   clear HNx95
   clear hW96 HS95
   refine tK 0 (kS HS96.out [5, 6]) ?_
   refine tK 1 (kS HS96.out [5, 6]) ?_
   refine rY 2 fun K hK => ?_
   have p1 := rG HS96 1
   go_simp
   refine onW hK (kS (HS96.out.st3 1 rfl _ _ _) [5, 6]) fun W97 hW97 => ?_
   clear hK K
   have HS97 := onS hW97 (HS96.out.st3 1 rfl _ _ _)
   have HNx97 := hide (Nx.onto hW97 (HNx96.out.st3 (by simp) _ _ _))
   clear HNx96
   clear hW97 HS96
   clear p1
   refine rY 3 fun K hK => ?_
   have p2 := rG HS97 2
   go_simp
   refine onW hK (kS (HS97.out.st3 2 rfl _ _ _) [5, 6]) fun W98 hW98 => ?_
   clear hK K
   have HS98 := onS hW98 (HS97.out.st3 2 rfl _ _ _)
   have HNx98 := hide (Nx.onto hW98 (HNx97.out.st3 (by simp) _ _ _))
   clear HNx97
   clear hW98 HS97
   clear p2
   refine wpAnyH_done (by kernel_rfl) ?_ _
   go_wp2_with fail
   refine namedPost fun W99 hW99 => ?_
   have HS99 := hide (St.onto hW99 HS98.out)
   have HNx99 := hide (Nx.onto hW99 HNx98.out)
   clear HNx98
   clear hW99 HS98
   exact ended_pn rfl rfl rfl (HS99.out.get 1 rfl) (HS99.out.get 2 rfl) ⟨⟨_, _, _, _, _, _, _, _, rfl, HNx99.out.out, ⟨by omega, by omega, by omega⟩, by omega⟩, HS99.out.below⟩
  have he100 : (t13.kind == 13) = false := by simpa using hk92
  have hn100 : (t13.kind != 13) = true := by simpa using hk92
  clear hk92
  by_cases hk101 : t13.kind = 3
  ·
   have he102 : (t13.kind == 3) = true := by simpa using hk101
   have hn102 : (t13.kind != 3) = false := by simpa using hk101
   have HK102 := hide hk101
   clear hk101
   obtain ⟨rfl, hlt103⟩ := tokAt_kind (l := l) (i := i) (b := bad) (by rw [HT13.out, HK102.out]; decide)
   go_wp2_with fail
   refine (Hworded.out (hi.below HS16.out.below) (by omega) (by omega)).mono ?_
   rintro e w104 ⟨⟨i104, bad104, d104, k104, s104, y104, m104, c104, rfl, hn104, ⟨hi104, hl104, hp104⟩, hc104⟩, hb104⟩
   have HS104 := hide (HS16.out.call hb104)
   have HNx104 := hide (show Nx w w104 [w.heap.size, w.heap.size + 1, w.heap.size + 1 + 1, w2.heap.size, w14.heap.size] _ _ from Nx.made hn104 HS16.out)
   clear hn104 hb104 HS16
   clear p0
   have p0 := rD HS104
   go_wp2_with fail
   have lv105 := lV HS104
   refine namedWp fun W105 hW105 => ?_
   have HS105 := onS hW105 HS104.out.va.va
   have HNx105 := hide (Nx.onto hW105 ((HNx104.out.var (g := w104.heap.size) (by simp) _).var (g := w104.heap.size + 1) (by simp) _))
   clear HNx104
   clear hW105 HS104
   clear p0
   refine rgn HS105.out [5, 6] fun W106 hW106 => ?_
   have HS106 := hide (St.onto hW106 HS105.out.dr)
   have HNx106 := hide (Nx.onto hW106 HNx105.out.dr)
   clear HNx105
   clear hW106 HS105
   refine tK 0 (kS HS106.out [5, 6]) ?_
   refine tK 1 (kS HS106.out [5, 6]) ?_
   refine rY 2 fun K hK => ?_
   have p1 := rG HS106 1
   go_simp
   refine onW hK (kS (HS106.out.st3 1 rfl _ _ _) [5, 6]) fun W107 hW107 => ?_
   clear hK K
   have HS107 := onS hW107 (HS106.out.st3 1 rfl _ _ _)
   have HNx107 := hide (Nx.onto hW107 (HNx106.out.st3 (by simp) _ _ _))
   clear HNx106
   clear hW107 HS106
   clear p1
   refine rY 3 fun K hK => ?_
   have p2 := rG HS107 2
   go_simp
   refine onW hK (kS (HS107.out.st3 2 rfl _ _ _) [5, 6]) fun W108 hW108 => ?_
   clear hK K
   have HS108 := onS hW108 (HS107.out.st3 2 rfl _ _ _)
   have HNx108 := hide (Nx.onto hW108 (HNx107.out.st3 (by simp) _ _ _))
   clear HNx107
   clear hW108 HS107
   clear p2
   refine wpAnyH_done (by kernel_rfl) ?_ _
   go_wp2_with fail
   refine namedPost fun W109 hW109 => ?_
   have HS109 := hide (St.onto hW109 HS108.out)
   have HNx109 := hide (Nx.onto hW109 HNx108.out)
   clear HNx108
   clear hW109 HS108
   exact ended_pn rfl rfl rfl (HS109.out.get 1 rfl) (HS109.out.get 2 rfl) ⟨⟨_, _, _, _, _, _, _, _, rfl, HNx109.out.out, ⟨by omega, by omega, by omega⟩, by omega⟩, HS109.out.below⟩
  have he110 : (t13.kind == 3) = false := by simpa using hk101
  have hn110 : (t13.kind != 3) = true := by simpa using hk101
  clear hk101
  go_wp2_with fail
  refine (wrong_any _ _ _ _ ⟨_, _, _, rfl⟩).mono ?_
  rintro e w112 ⟨rfl, hb112⟩
  have HS112 := hide (HS16.out.call hb112)
  clear hb112 HS16
  clear p0
  have p0 := rD HS112
  go_wp2_with fail
  have hwr111 := left_wrong l.length i bad
  refine namedPost fun W113 hW113 => ?_
  have HS113 := onS hW113 ((HS112.out.st3 1 rfl _ _ _).st3 2 rfl _ _ _)
  have HNres113 := hide (show Nx w W113 [w.heap.size, w.heap.size + 1, w.heap.size + 1 + 1, w2.heap.size, w14.heap.size] (Nd.mk 0 ⟨#[]⟩ .nil) (.agg #[.int .i64 0, .string ⟨#[]⟩, .slice none 0 0]) from hW113 ▸ (Nx.leaf (by omega) (by decide)))
  clear hW113 HS112
  clear p0
  exact ended_pn rfl rfl rfl (HS113.out.get 1 rfl) (HS113.out.get 2 rfl) ⟨⟨_, _, _, _, _, _, _, _, rfl, HNres113.out.out, ⟨by omega, by omega, by omega⟩, by rw [cntLeaf]; omega⟩, HS113.out.below⟩
end Go.Proofs.YtacgmmpdichlmaaGreat
