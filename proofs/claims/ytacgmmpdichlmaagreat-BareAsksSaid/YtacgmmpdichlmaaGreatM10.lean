/-
  The reference's str: a string. Its condition: the parser's items lie in memory.
-/
import Derived.Test.YtacgmmpdichlmaaGreatM04
namespace Go.Proofs.YtacgmmpdichlmaaGreat
open Go.RowKit
attribute [local go_sem ↓] Go.wp_at_zero Go.wp_at_succ

set_option maxRecDepth 4000 in
set_option maxHeartbeats 4000000 in
theorem str_k {l : List Tk} {a : Option Addr} {cap m : Nat} (K : Kn l a cap m) {i : Nat} {bad : Bool} {w : World} (hi : Its w a l) (hat : i ≤ l.length) (hm : leftP l.length i bad ≤ m) : Calls Tryz.prog 88 #[.agg #[.slice a l.length cap, .int .i64 i, .bool bad]] w (PN l a cap w i bad 2) := by
  have HK := hide K
  have hlen := hi.2.1
  clear K
  go_enter Tryz.func88, Tryz.ntmps88
  go_wp2_with fail
  refine named fun W1 hW1 => ?_
  have HS1 := onS hW1 (St.nil w).va.va.va.va
  clear hW1
  obtain ⟨t2, ht2⟩ : ∃ t, tokAt l i bad = t := ⟨_, rfl⟩
  have hok2 := tokAt_ok hi.2.2 i bad
  rw [ht2] at hok2
  obtain ⟨hkb2, hz2, hone2⟩ := hok2
  have HT2 := hide ht2
  clear ht2
  have Hone2 := hide hone2
  clear hone2
  have hfa2 := fieldT0 t2.kind t2.text
  have hfb2 := fieldT1 t2.kind t2.text
  refine (tok_any (hi.below HS1.out.below)).mono ?_
  rintro e w3 ⟨rfl, hb3⟩
  rw [HT2.out]
  have HS3 := hide (HS1.out.call hb3)
  clear hb3 HS1
  have p0 := rD HS3
  by_cases hk4 : t2.kind = 12
  ·
   have he5 : (t2.kind == 12) = true := by simpa using hk4
   have hn5 : (t2.kind != 12) = false := by simpa using hk4
   have HK5 := hide hk4
   clear hk4
   obtain ⟨rfl, hlt6⟩ := tokAt_kind (l := l) (i := i) (b := bad) (by rw [HT2.out, HK5.out]; decide)
   go_wp2_with fail
   refine (tok_any (hi.below HS3.out.below)).mono ?_
   rintro e w7 ⟨rfl, hb7⟩
   rw [HT2.out]
   have HS7 := hide (HS3.out.call hb7)
   clear hb7 HS3
   clear p0
   have p0 := rD HS7
   go_wp2_with fail
   refine named fun W8 hW8 => ?_
   have HS8 := onS hW8 (HS7.out.st 3 rfl 1 _)
   clear hW8 HS7
   clear p0
   refine (next_in (n := l.length) ⟨_, _, _, rfl⟩ (by omega) hlen).mono ?_
   rintro e w10 ⟨⟨j9, rfl, hj9, hl9, hp9⟩, hb10⟩
   have HS10 := hide (HS8.out.call hb10)
   clear hb10 HS8
   have p0 := rD HS10
   go_wp2_with fail
   go_wp2_with fail
   refine named fun W11 hW11 => ?_
   have HS11 := onS hW11 (HS10.out.st3 0 rfl _ _ _)
   clear hW11 HS10
   clear p0
   refine (one_any 7 (hi.below HS11.out.below) (by omega) (by decide)).mono ?_
   rintro e w13 ⟨⟨i12, bad12, rfl, hr12, hkk12⟩, hb13⟩
   have HS13 := hide (HS11.out.call hb13)
   clear hb13 HS11
   obtain ⟨hi12, hl12, hp12, hj12⟩ := hr12.out (by omega)
   have hq12 := hr12.less (by omega)
   have hnx12 := StepR.one hr12
   clear hr12 hkk12
   have p0 := rD HS13
   go_wp2_with fail
   refine namedWp fun W14 hW14 => ?_
   have HS14 := onS hW14 (HS13.out.st3 0 rfl _ _ _)
   clear hW14 HS13
   clear p0
   go_loopw [] (fun wr => ∃ (x : Nat) (b : Bool) (y : Option Addr) (q c : Nat) (ds : List Nd), St w wr [(w.heap.size, 86, #[.slice a l.length cap, .int .i64 x, .bool b]), (w.heap.size + 1, 86, #[.slice none 0 0, .int .i64 0, .bool false]), (w.heap.size + 1 + 1, 24, #[.int .i64 0, .string ⟨#[]⟩, .slice none 0 0]), (w.heap.size + 1 + 1 + 1, 24, #[.int .i64 6, .string t2.text, .slice y q c])] ∧ Hx w wr [w.heap.size, w.heap.size + 1, w.heap.size + 1 + 1, w.heap.size + 1 + 1 + 1] (.slice y q c) ds ∧ (i ≤ x ∧ x ≤ l.length ∧ leftP l.length x b ≤ leftP l.length i false ∧ cntL ds + 8 * i ≤ 8 * x) ∧ ((b = false ∧ cntL ds + 8 * (i + 1) ≤ 8 * x) ∨ b = true)) (fun wr => leftAt l.length w.heap.size wr)
   case atStart => exact ⟨i12, bad12, none, 0, 0, [], HS14.out, Hx.nil _ _ _, ⟨by omega, by omega, by omega, by rw [cntL_nil]; omega⟩, hnx12.elim (fun h => Or.inl ⟨h.1, by have := h.2; rw [cntL_nil]; omega⟩) (fun h => Or.inr h.1)⟩
   obtain ⟨x, b, y, q, c, ds, hS, hH, ⟨hx1, hx2, hx3, hx4⟩, hx5⟩ := hrel
   have hMp := hS.get 0 rfl
   have HSr := hide hS
   have HRk := hide hH
   clear hS hH HS14
   cases b
   case true =>
    clear hx5
    have p0 := rD HSr
    go_wp2_with fail
    clear p0
    refine namedWp fun W16 hW16 => ?_
    have HS16 := hide (St.onto hW16 HSr.out)
    have HRk16 := hide (Px.onto hW16 HRk.out)
    clear HRk
    clear hW16 HSr
    have HNn15 := hide (show Nx w W16 [w.heap.size, w.heap.size + 1, w.heap.size + 1 + 1, w.heap.size + 1 + 1 + 1] (Nd.of 6 t2.text ds) (.agg #[.int .i64 6, .string t2.text, .slice y q c]) from Px.node HRk16.out (by omega) (by simp only [maxLen]; omega))
    clear HRk16
    refine namedWp fun W17 hW17 => ?_
    have HS17 := hide (St.onto hW17 HS16.out)
    have HNn17 := hide (Nx.onto hW17 HNn15.out)
    clear HNn15
    clear hW17 HS16
    refine rgn HS17.out [0, 3] fun W18 hW18 => ?_
    have HS18 := hide (St.onto hW18 HS17.out.dr)
    have HNn18 := hide (Nx.onto hW18 HNn17.out.dr)
    clear HNn17
    clear hW18 HS17
    refine tK 0 (kS HS18.out [0, 3]) ?_
    refine tK 2 (kS HS18.out [0, 3]) ?_
    refine rY 1 fun K hK => ?_
    go_simp
    refine (one_any 11 (hi.below HS18.out.below) (by omega) (by decide)).mono ?_
    rintro e w20 ⟨⟨i19, bad19, rfl, hr19, hkk19⟩, hb20⟩
    have HS20 := hide (HS18.out.call hb20)
    have HNn20 := hide (HNn18.out.call hb20)
    clear HNn18
    clear hb20 HS18
    obtain ⟨hi19, hl19, hp19, hj19⟩ := hr19.out (by omega)
    have hnx19 := StepR.one hr19
    clear hr19 hkk19
    go_simp
    refine onK hK (kS HS20.out [0, 3]) ?_
    clear hK K
    refine rY 3 fun K hK => ?_
    have p1 := rG HS20 1
    go_simp
    refine onW hK (kS (HS20.out.st3 1 rfl _ _ _) [0, 3]) fun W21 hW21 => ?_
    clear hK K
    have HS21 := onS hW21 (HS20.out.st3 1 rfl _ _ _)
    have HNn21 := hide (Nx.onto hW21 (HNn20.out.st3 (by simp) _ _ _))
    clear HNn20
    clear hW21 HS20
    clear p1
    refine rY 4 fun K hK => ?_
    have p2 := rG HS21 2
    go_simp
    refine onW hK (kS (HS21.out.st3 2 rfl _ _ _) [0, 3]) fun W22 hW22 => ?_
    clear hK K
    have HS22 := onS hW22 (HS21.out.st3 2 rfl _ _ _)
    have HNn22 := hide (Nx.onto hW22 (HNn21.out.st3 (by simp) _ _ _))
    clear HNn21
    clear hW22 HS21
    clear p2
    refine wpAnyH_done (by kernel_rfl) ?_ _
    go_wp2_with fail
    refine namedPost fun W23 hW23 => ?_
    have HS23 := hide (St.onto hW23 HS22.out)
    have HNn23 := hide (Nx.onto hW23 HNn22.out)
    clear HNn22
    clear hW23 HS22
    exact ended_pn rfl rfl rfl (HS23.out.get 1 rfl) (HS23.out.get 2 rfl) ⟨⟨_, _, _, _, _, _, _, _, rfl, HNn23.out.out, ⟨by omega, by omega, by omega⟩, by rw [cntOf]; omega⟩, HS23.out.below⟩
   have hx6 : cntL ds + 8 * (i + 1) ≤ 8 * x := hx5.elim (fun h => h.2) (fun h => by cases h)
   clear hx5
   have hcl := len_cntL ds
   have p0 := rD HSr
   go_wp2_with fail
   obtain ⟨t24, ht24⟩ : ∃ t, tokAt l x false = t := ⟨_, rfl⟩
   have hok24 := tokAt_ok hi.2.2 x false
   rw [ht24] at hok24
   obtain ⟨hkb24, hz24, hone24⟩ := hok24
   have HT24 := hide ht24
   clear ht24
   have Hone24 := hide hone24
   clear hone24
   have hfa24 := fieldT0 t24.kind t24.text
   have hfb24 := fieldT1 t24.kind t24.text
   refine (tok_any (hi.below HSr.out.below)).mono ?_
   rintro e w25 ⟨rfl, hb25⟩
   rw [HT24.out]
   have HS25 := hide (HSr.out.call hb25)
   have HRk25 := hide (HRk.out.call hb25)
   clear HRk
   clear hb25 HSr
   clear p0
   have p0 := rD HS25
   by_cases hk26 : t24.kind = 11
   ·
    have he27 : (t24.kind == 11) = true := by simpa using hk26
    have hn27 : (t24.kind != 11) = false := by simpa using hk26
    have HK27 := hide hk26
    clear hk26
    go_wp2_with fail
    clear p0
    refine namedWp fun W29 hW29 => ?_
    have HS29 := hide (St.onto hW29 HS25.out)
    have HRk29 := hide (Px.onto hW29 HRk25.out)
    clear HRk25
    clear hW29 HS25
    have HNn28 := hide (show Nx w W29 [w.heap.size, w.heap.size + 1, w.heap.size + 1 + 1, w.heap.size + 1 + 1 + 1] (Nd.of 6 t2.text ds) (.agg #[.int .i64 6, .string t2.text, .slice y q c]) from Px.node HRk29.out (by omega) (by simp only [maxLen]; omega))
    clear HRk29
    refine namedWp fun W30 hW30 => ?_
    have HS30 := hide (St.onto hW30 HS29.out)
    have HNn30 := hide (Nx.onto hW30 HNn28.out)
    clear HNn28
    clear hW30 HS29
    refine rgn HS30.out [0, 3] fun W31 hW31 => ?_
    have HS31 := hide (St.onto hW31 HS30.out.dr)
    have HNn31 := hide (Nx.onto hW31 HNn30.out.dr)
    clear HNn30
    clear hW31 HS30
    refine tK 0 (kS HS31.out [0, 3]) ?_
    refine tK 2 (kS HS31.out [0, 3]) ?_
    refine rY 1 fun K hK => ?_
    go_simp
    refine (one_any 11 (hi.below HS31.out.below) (by omega) (by decide)).mono ?_
    rintro e w33 ⟨⟨i32, bad32, rfl, hr32, hkk32⟩, hb33⟩
    have HS33 := hide (HS31.out.call hb33)
    have HNn33 := hide (HNn31.out.call hb33)
    clear HNn31
    clear hb33 HS31
    obtain ⟨hi32, hl32, hp32, hj32⟩ := hr32.out (by omega)
    have hq32 := hr32.less (by omega)
    have hnx32 := StepR.one hr32
    clear hr32 hkk32
    go_simp
    refine onK hK (kS HS33.out [0, 3]) ?_
    clear hK K
    refine rY 3 fun K hK => ?_
    have p1 := rG HS33 1
    go_simp
    refine onW hK (kS (HS33.out.st3 1 rfl _ _ _) [0, 3]) fun W34 hW34 => ?_
    clear hK K
    have HS34 := onS hW34 (HS33.out.st3 1 rfl _ _ _)
    have HNn34 := hide (Nx.onto hW34 (HNn33.out.st3 (by simp) _ _ _))
    clear HNn33
    clear hW34 HS33
    clear p1
    refine rY 4 fun K hK => ?_
    have p2 := rG HS34 2
    go_simp
    refine onW hK (kS (HS34.out.st3 2 rfl _ _ _) [0, 3]) fun W35 hW35 => ?_
    clear hK K
    have HS35 := onS hW35 (HS34.out.st3 2 rfl _ _ _)
    have HNn35 := hide (Nx.onto hW35 (HNn34.out.st3 (by simp) _ _ _))
    clear HNn34
    clear hW35 HS34
    clear p2
    refine wpAnyH_done (by kernel_rfl) ?_ _
    go_wp2_with fail
    refine namedPost fun W36 hW36 => ?_
    have HS36 := hide (St.onto hW36 HS35.out)
    have HNn36 := hide (Nx.onto hW36 HNn35.out)
    clear HNn35
    clear hW36 HS35
    exact ended_pn rfl rfl rfl (HS36.out.get 1 rfl) (HS36.out.get 2 rfl) ⟨⟨_, _, _, _, _, _, _, _, rfl, HNn36.out.out, ⟨by omega, by omega, by omega⟩, by rw [cntOf]; omega⟩, HS36.out.below⟩
   have he37 : (t24.kind == 11) = false := by simpa using hk26
   have hn37 : (t24.kind != 11) = true := by simpa using hk26
   clear hk26
   go_wp2_with fail
   refine (tok_any (hi.below HS25.out.below)).mono ?_
   rintro e w38 ⟨rfl, hb38⟩
   rw [HT24.out]
   have HS38 := hide (HS25.out.call hb38)
   have HRk38 := hide (HRk25.out.call hb38)
   clear HRk25
   clear hb38 HS25
   clear p0
   have p0 := rD HS38
   by_cases hk39 : t24.kind = 8
   ·
    have he40 : (t24.kind == 8) = true := by simpa using hk39
    have hn40 : (t24.kind != 8) = false := by simpa using hk39
    have HK40 := hide hk39
    clear hk39
    have hlt41 := (tokAt_kind (l := l) (i := x) (b := false) (by rw [HT24.out, HK40.out]; decide)).2
    go_wp2_with fail
    have HRk42 := hide (show Px w w38 [w.heap.size, w.heap.size + 1, w.heap.size + 1 + 1, w.heap.size + 1 + 1 + 1] (.slice y q c) ds [.mk 7 t24.text .nil] [.int .i64 7, .string t24.text, .slice none 0 0] from Px.leaf HRk38.out (by omega) (by simp only [maxLen]; omega))
    clear HRk38
    refine namedWp fun W43 hW43 => ?_
    have HS43 := hide (St.onto hW43 HS38.out)
    have HRk43 := hide (Px.onto hW43 HRk42.out)
    clear HRk42
    clear hW43 HS38
    clear p0
    refine rgn HS43.out [0] fun W44 hW44 => ?_
    have HS44 := hide (St.onto hW44 HS43.out.dr)
    have HRk44 := hide (Px.onto hW44 HRk43.out.dr)
    clear HRk43
    clear hW44 HS43
    refine tK 0 (kS HS44.out [0]) ?_
    refine tK 2 (kS HS44.out [0]) ?_
    refine rY2 1 3 (fun K hK => ?_) (fun K hK => ?_)
    ·
     have p3 := rG HS44 3
     go_simp
     refine onK hK (kS HS44.out [0]) ?_
     clear hK K
     refine rY 3 fun K hK => ?_
     go_simp
     refine (tok_any (hi.below HS44.out.below)).mono ?_
     rintro e w45 ⟨rfl, hb45⟩
     rw [HT24.out]
     have HS45 := hide (HS44.out.call hb45)
     have HRk45 := hide (HRk44.out.call hb45)
     clear HRk44
     clear hb45 HS44
     clear p3
     have p0 := rD HS45
     go_simp
     refine onK hK (kS HS45.out [0]) ?_
     clear hK K
     refine tK 4 (kS HS45.out [0]) ?_
     refine tK 5 (kS HS45.out [0]) ?_
     refine rY 6 fun K hK => ?_
     clear p0
     obtain ⟨v46, w46, hr46, hH46, hS46⟩ := HRk45.out.snoc HS45.out rfl (by simp only [List.length_cons, List.length_nil]; omega) (by simp)
     simp only [List.length_cons, List.length_nil, Nat.zero_add] at hr46
     obtain ⟨y46, n46, c46, rfl⟩ := hH46.form'
     have HX46 := hide hr46
     clear hr46
     go_simp
     refine onK hK (kS (HS45.out.al _) [0]) ?_
     clear hK K
     refine rY 7 fun K hK => ?_
     rw [if_pos (show Region.wanted _ _ = true from rfl)]
     refine wp_append_run (.tmp 34) (.tmp 39) rfl rfl rfl rfl HX46.out ?_
     refine onK hK (kS hS46 [0]) ?_
     clear hK K
     clear HX46 HS45 HRk45
     have HS46 := hide hS46
     have HRk46 := hide hH46
     clear hS46 hH46
     refine tK 8 (kS HS46.out [0]) ?_
     refine rY 9 fun K hK => ?_
     have p3 := rG HS46 3
     go_simp
     refine onW hK (kS (HS46.out.st 3 rfl 2 _) [0]) fun W47 hW47 => ?_
     clear hK K
     have HS47 := onS hW47 (HS46.out.st 3 rfl 2 _)
     have HRk47 := hide (Px.onto hW47 (HRk46.out.st (by simp) _ _))
     clear HRk46
     clear hW47 HS46
     clear p3
     refine wpAnyH_done (by kernel_rfl) ?_ _
     have p0 := rD HS47
     go_wp2_with fail
     refine (next_in (n := l.length) ⟨_, _, _, rfl⟩ (by omega) hlen).mono ?_
     rintro e w49 ⟨⟨j48, rfl, hj48, hl48, hp48⟩, hb49⟩
     have HS49 := hide (HS47.out.call hb49)
     have HRk49 := hide (HRk47.out.call hb49)
     clear HRk47
     clear hb49 HS47
     clear p0
     have p0 := rD HS49
     go_wp2_with fail
     exact ⟨⟨j48, false, _, _, _, _, (HS49.out.st3 0 rfl _ _ _).cut 4 rfl, (HRk49.out.st3 (by simp) _ _ _).fewer (by simp), ⟨by omega, by omega, by omega, by rw [cntL_app, cntL_one, cntLeaf]; omega⟩, Or.inl ⟨rfl, by rw [cntL_app, cntL_one, cntLeaf]; omega⟩⟩, by rw [leftAt_of ((HS49.out.st3 0 rfl _ _ _).get 0 rfl), leftAt_of hMp]; omega⟩
    go_simp
    refine (tok_any (hi.below HS44.out.below)).mono ?_
    rintro e w50 ⟨rfl, hb50⟩
    rw [HT24.out]
    have HS50 := hide (HS44.out.call hb50)
    have HRk50 := hide (HRk44.out.call hb50)
    clear HRk44
    clear hb50 HS44
    have p0 := rD HS50
    go_simp
    refine onK hK (kS HS50.out [0]) ?_
    clear hK K
    refine tK 4 (kS HS50.out [0]) ?_
    refine tK 5 (kS HS50.out [0]) ?_
    refine rY2 1 6 (fun K hK => ?_) (fun K hK => ?_)
    ·
     clear p0
     have p3 := rG HS50 3
     go_simp
     refine onK hK (kS HS50.out [0]) ?_
     clear hK K
     refine rY 6 fun K hK => ?_
     clear p3
     obtain ⟨v51, w51, hr51, hH51, hS51⟩ := HRk50.out.snoc HS50.out rfl (by simp only [List.length_cons, List.length_nil]; omega) (by simp)
     simp only [List.length_cons, List.length_nil, Nat.zero_add] at hr51
     obtain ⟨y51, n51, c51, rfl⟩ := hH51.form'
     have HX51 := hide hr51
     clear hr51
     go_simp
     refine onK hK (kS (HS50.out.al _) [0]) ?_
     clear hK K
     refine rY 7 fun K hK => ?_
     rw [if_pos (show Region.wanted _ _ = true from rfl)]
     refine wp_append_run (.tmp 34) (.tmp 39) rfl rfl rfl rfl HX51.out ?_
     refine onK hK (kS hS51 [0]) ?_
     clear hK K
     clear HX51 HS50 HRk50
     have HS51 := hide hS51
     have HRk51 := hide hH51
     clear hS51 hH51
     refine tK 8 (kS HS51.out [0]) ?_
     refine rY 9 fun K hK => ?_
     have p3 := rG HS51 3
     go_simp
     refine onW hK (kS (HS51.out.st 3 rfl 2 _) [0]) fun W52 hW52 => ?_
     clear hK K
     have HS52 := onS hW52 (HS51.out.st 3 rfl 2 _)
     have HRk52 := hide (Px.onto hW52 (HRk51.out.st (by simp) _ _))
     clear HRk51
     clear hW52 HS51
     clear p3
     refine wpAnyH_done (by kernel_rfl) ?_ _
     have p0 := rD HS52
     go_wp2_with fail
     refine (next_in (n := l.length) ⟨_, _, _, rfl⟩ (by omega) hlen).mono ?_
     rintro e w54 ⟨⟨j53, rfl, hj53, hl53, hp53⟩, hb54⟩
     have HS54 := hide (HS52.out.call hb54)
     have HRk54 := hide (HRk52.out.call hb54)
     clear HRk52
     clear hb54 HS52
     clear p0
     have p0 := rD HS54
     go_wp2_with fail
     exact ⟨⟨j53, false, _, _, _, _, (HS54.out.st3 0 rfl _ _ _).cut 4 rfl, (HRk54.out.st3 (by simp) _ _ _).fewer (by simp), ⟨by omega, by omega, by omega, by rw [cntL_app, cntL_one, cntLeaf]; omega⟩, Or.inl ⟨rfl, by rw [cntL_app, cntL_one, cntLeaf]; omega⟩⟩, by rw [leftAt_of ((HS54.out.st3 0 rfl _ _ _).get 0 rfl), leftAt_of hMp]; omega⟩
    clear p0
    obtain ⟨v55, w55, hr55, hH55, hS55⟩ := HRk50.out.snoc HS50.out rfl (by simp only [List.length_cons, List.length_nil]; omega) (by simp)
    simp only [List.length_cons, List.length_nil, Nat.zero_add] at hr55
    obtain ⟨y55, n55, c55, rfl⟩ := hH55.form'
    have HX55 := hide hr55
    clear hr55
    go_simp
    refine onK hK (kS (HS50.out.al _) [0]) ?_
    clear hK K
    refine rY 1 fun K hK => ?_
    obtain ⟨z550, z551, z552, z553, z554, z555⟩ := ((HS50.out.al (.cells #[.int .i64 7, .string t24.text, .slice none 0 0] 24)).get 3 rfl).three
    go_simp
    refine onK hK (kS (HS50.out.al _) [0]) ?_
    clear hK K
    clear z550 z551 z552 z553 z554 z555
    refine rY 7 fun K hK => ?_
    rw [if_pos (show Region.wanted _ _ = true from rfl)]
    refine wp_append_run (.tmp 34) (.tmp 39) rfl rfl rfl rfl HX55.out ?_
    refine onK hK (kS hS55 [0]) ?_
    clear hK K
    clear HX55 HS50 HRk50
    have HS55 := hide hS55
    have HRk55 := hide hH55
    clear hS55 hH55
    refine tK 8 (kS HS55.out [0]) ?_
    refine rY 9 fun K hK => ?_
    have p3 := rG HS55 3
    go_simp
    refine onW hK (kS (HS55.out.st 3 rfl 2 _) [0]) fun W56 hW56 => ?_
    clear hK K
    have HS56 := onS hW56 (HS55.out.st 3 rfl 2 _)
    have HRk56 := hide (Px.onto hW56 (HRk55.out.st (by simp) _ _))
    clear HRk55
    clear hW56 HS55
    clear p3
    refine wpAnyH_done (by kernel_rfl) ?_ _
    have p0 := rD HS56
    go_wp2_with fail
    refine (next_in (n := l.length) ⟨_, _, _, rfl⟩ (by omega) hlen).mono ?_
    rintro e w58 ⟨⟨j57, rfl, hj57, hl57, hp57⟩, hb58⟩
    have HS58 := hide (HS56.out.call hb58)
    have HRk58 := hide (HRk56.out.call hb58)
    clear HRk56
    clear hb58 HS56
    clear p0
    have p0 := rD HS58
    go_wp2_with fail
    exact ⟨⟨j57, false, _, _, _, _, (HS58.out.st3 0 rfl _ _ _).cut 4 rfl, (HRk58.out.st3 (by simp) _ _ _).fewer (by simp), ⟨by omega, by omega, by omega, by rw [cntL_app, cntL_one, cntLeaf]; omega⟩, Or.inl ⟨rfl, by rw [cntL_app, cntL_one, cntLeaf]; omega⟩⟩, by rw [leftAt_of ((HS58.out.st3 0 rfl _ _ _).get 0 rfl), leftAt_of hMp]; omega⟩
   have he59 : (t24.kind == 8) = false := by simpa using hk39
   have hn59 : (t24.kind != 8) = true := by simpa using hk39
   clear hk39
   go_wp2_with fail
   refine (one_any 9 (hi.below HS38.out.below) (by omega) (by decide)).mono ?_
   rintro e w61 ⟨⟨i60, bad60, rfl, hr60, hkk60⟩, hb61⟩
   have HS61 := hide (HS38.out.call hb61)
   have HRk61 := hide (HRk38.out.call hb61)
   clear HRk38
   clear hb61 HS38
   clear p0
   obtain ⟨hi60, hl60, hp60, hj60⟩ := hr60.out (by omega)
   have hq60 := hr60.less (by omega)
   have hnx60 := StepR.one hr60
   clear hr60 hkk60
   have p0 := rD HS61
   go_wp2_with fail
   have hb1 : leftP l.length i60 bad60 < m + 1 := by omega
   refine (HK.out.pipe (hi.below HS61.out.below) (by omega) (by omega)).mono ?_
   rintro e w62 ⟨⟨i62, bad62, d62, k62, s62, y62, m62, c62, rfl, hn62, ⟨hi62, hl62, hp62⟩, hc62⟩, hb62⟩
   have HS62 := hide (HS61.out.call hb62)
   have HRk62 := hide (Px.made HRk61.out hn62 hb62 HS61.out rfl)
   clear HRk61
   have HNx62 := hide (show Nx w w62 [w.heap.size, w.heap.size + 1, w.heap.size + 1 + 1, w.heap.size + 1 + 1 + 1] _ _ from Nx.made hn62 HS61.out)
   clear hn62 hb62 HS61
   clear p0
   have p0 := rD HS62
   have lv63 := lV HS62
   have hSt63 : St w ((w62.alloc (.cells #[.slice a l.length cap, .int .i64 i62, .bool bad62] 86)).alloc (.cells #[.int .i64 k62, .string s62, .slice y62 m62 c62] 24)) [pe w.heap.size a l cap x false, pz (w.heap.size + 1), nz (w.heap.size + 1 + 1), ne (w.heap.size + 1 + 1 + 1) 6 t2.text y q c, pe w62.heap.size a l cap i62 bad62, ne (w62.heap.size + 1) k62 s62 y62 m62 c62] := ((HS62.out.var 86 _ (by simp)).var 24 _ (by simp))
   have hPx63 : Px w ((w62.alloc (.cells #[.slice a l.length cap, .int .i64 i62, .bool bad62] 86)).alloc (.cells #[.int .i64 k62, .string s62, .slice y62 m62 c62] 24)) [w.heap.size, w.heap.size + 1, w.heap.size + 1 + 1, w.heap.size + 1 + 1 + 1, w62.heap.size, w62.heap.size + 1] (.slice y q c) ds [d62] [.int .i64 k62, .string s62, .slice y62 m62 c62] := ((HRk62.out.var (g := w62.heap.size) (by simp) _).var (g := w62.heap.size + 1) (by simp) _)
   obtain ⟨v63, w63, hr63, hH63, hS63⟩ := hPx63.snoc hSt63 rfl (by simp only [List.length_cons, List.length_nil]; omega) (by simp)
   simp only [World.size_alloc, List.length_cons, List.length_nil, Nat.zero_add] at hr63
   obtain ⟨y63, n63, c63, rfl⟩ := hH63.form'
   clear hSt63 hPx63 HS62 HRk62 HNx62
   have HS63 := hide hS63
   have HRk63 := hide hH63
   clear hS63 hH63
   have rr0 := rD HS63
   go_wp2_with (at_builtin; refine wpList_append_run rfl _ _ (by rfl) (by rfl) (by rfl) (by rfl) hr63 ?_)
   clear hr63 p0
   go_wp2_with fail
   refine named fun W64 hW64 => ?_
   have HS64 := onS hW64 (HS63.out.st 3 rfl 2 _)
   have HRk64 := hide (Px.onto hW64 (HRk63.out.st (by simp) _ _))
   clear HRk63
   clear hW64 HS63
   clear rr0
   refine (one_any 10 (hi.below HS64.out.below) (by omega) (by decide)).mono ?_
   rintro e w66 ⟨⟨i65, bad65, rfl, hr65, hkk65⟩, hb66⟩
   have HS66 := hide (HS64.out.call hb66)
   have HRk66 := hide (HRk64.out.call hb66)
   clear HRk64
   clear hb66 HS64
   obtain ⟨hi65, hl65, hp65, hj65⟩ := hr65.out (by omega)
   have hnx65 := StepR.one hr65
   clear hr65 hkk65
   have p0 := rD HS66
   go_wp2_with fail
   exact ⟨⟨i65, bad65, _, _, _, _, (HS66.out.st3 0 rfl _ _ _).cut 4 rfl, (HRk66.out.st3 (by simp) _ _ _).fewer (by simp), ⟨by omega, by omega, by omega, by rw [cntL_app, cntL_one]; omega⟩, by
     rcases hnx60 with ⟨h1, h2⟩ | ⟨h1, h2⟩
     · rcases hnx65 with ⟨h3, h4⟩ | ⟨h3, -⟩
       · exact Or.inl ⟨h3, by rw [cntL_app, cntL_one]; omega⟩
       · exact Or.inr h3
     · subst h1
       obtain rfl := left_b hp62
       exact Or.inr (left_b hp65)⟩, by rw [leftAt_of ((HS66.out.st3 0 rfl _ _ _).get 0 rfl), leftAt_of hMp]; omega⟩
  have he67 : (t2.kind == 12) = false := by simpa using hk4
  have hn67 : (t2.kind != 12) = true := by simpa using hk4
  clear hk4
  go_wp2_with fail
  refine (one_any 7 (hi.below HS3.out.below) (by omega) (by decide)).mono ?_
  rintro e w69 ⟨⟨i68, bad68, rfl, hr68, hkk68⟩, hb69⟩
  have HS69 := hide (HS3.out.call hb69)
  clear hb69 HS3
  clear p0
  obtain ⟨hi68, hl68, hp68, hj68⟩ := hr68.out (by omega)
  have hnx68 := StepR.one hr68
  clear hr68 hkk68
  have p0 := rD HS69
  go_wp2_with fail
  refine namedWp fun W70 hW70 => ?_
  have HS70 := onS hW70 (HS69.out.st3 0 rfl _ _ _)
  clear hW70 HS69
  clear p0
  go_loopw [] (fun wr => ∃ (x : Nat) (b : Bool) (y : Option Addr) (q c : Nat) (ds : List Nd), St w wr [(w.heap.size, 86, #[.slice a l.length cap, .int .i64 x, .bool b]), (w.heap.size + 1, 86, #[.slice none 0 0, .int .i64 0, .bool false]), (w.heap.size + 1 + 1, 24, #[.int .i64 0, .string ⟨#[]⟩, .slice none 0 0]), (w.heap.size + 1 + 1 + 1, 24, #[.int .i64 6, .string ⟨#[]⟩, .slice y q c])] ∧ Hx w wr [w.heap.size, w.heap.size + 1, w.heap.size + 1 + 1, w.heap.size + 1 + 1 + 1] (.slice y q c) ds ∧ (i ≤ x ∧ x ≤ l.length ∧ leftP l.length x b ≤ leftP l.length i bad ∧ cntL ds + 8 * i ≤ 8 * x) ∧ ((b = false ∧ cntL ds + 8 * (i + 1) ≤ 8 * x) ∨ b = true)) (fun wr => leftAt l.length w.heap.size wr)
  case atStart => exact ⟨i68, bad68, none, 0, 0, [], HS70.out, Hx.nil _ _ _, ⟨by omega, by omega, by omega, by rw [cntL_nil]; omega⟩, hnx68.elim (fun h => Or.inl ⟨h.1, by have := h.2; rw [cntL_nil]; omega⟩) (fun h => Or.inr h.1)⟩
  obtain ⟨x, b, y, q, c, ds, hS, hH, ⟨hx1, hx2, hx3, hx4⟩, hx5⟩ := hrel
  have hMp := hS.get 0 rfl
  have HSr := hide hS
  have HRk := hide hH
  clear hS hH HS70
  cases b
  case true =>
   clear hx5
   have p0 := rD HSr
   go_wp2_with fail
   clear p0
   refine namedWp fun W72 hW72 => ?_
   have HS72 := hide (St.onto hW72 HSr.out)
   have HRk72 := hide (Px.onto hW72 HRk.out)
   clear HRk
   clear hW72 HSr
   have HNn71 := hide (show Nx w W72 [w.heap.size, w.heap.size + 1, w.heap.size + 1 + 1, w.heap.size + 1 + 1 + 1] (Nd.of 6 ⟨#[]⟩ ds) (.agg #[.int .i64 6, .string ⟨#[]⟩, .slice y q c]) from Px.node HRk72.out (by omega) (by decide))
   clear HRk72
   refine namedWp fun W73 hW73 => ?_
   have HS73 := hide (St.onto hW73 HS72.out)
   have HNn73 := hide (Nx.onto hW73 HNn71.out)
   clear HNn71
   clear hW73 HS72
   refine rgn HS73.out [0, 3] fun W74 hW74 => ?_
   have HS74 := hide (St.onto hW74 HS73.out.dr)
   have HNn74 := hide (Nx.onto hW74 HNn73.out.dr)
   clear HNn73
   clear hW74 HS73
   refine tK 0 (kS HS74.out [0, 3]) ?_
   refine tK 2 (kS HS74.out [0, 3]) ?_
   refine rY 1 fun K hK => ?_
   go_simp
   refine (one_any 11 (hi.below HS74.out.below) (by omega) (by decide)).mono ?_
   rintro e w76 ⟨⟨i75, bad75, rfl, hr75, hkk75⟩, hb76⟩
   have HS76 := hide (HS74.out.call hb76)
   have HNn76 := hide (HNn74.out.call hb76)
   clear HNn74
   clear hb76 HS74
   obtain ⟨hi75, hl75, hp75, hj75⟩ := hr75.out (by omega)
   have hnx75 := StepR.one hr75
   clear hr75 hkk75
   go_simp
   refine onK hK (kS HS76.out [0, 3]) ?_
   clear hK K
   refine rY 3 fun K hK => ?_
   have p1 := rG HS76 1
   go_simp
   refine onW hK (kS (HS76.out.st3 1 rfl _ _ _) [0, 3]) fun W77 hW77 => ?_
   clear hK K
   have HS77 := onS hW77 (HS76.out.st3 1 rfl _ _ _)
   have HNn77 := hide (Nx.onto hW77 (HNn76.out.st3 (by simp) _ _ _))
   clear HNn76
   clear hW77 HS76
   clear p1
   refine rY 4 fun K hK => ?_
   have p2 := rG HS77 2
   go_simp
   refine onW hK (kS (HS77.out.st3 2 rfl _ _ _) [0, 3]) fun W78 hW78 => ?_
   clear hK K
   have HS78 := onS hW78 (HS77.out.st3 2 rfl _ _ _)
   have HNn78 := hide (Nx.onto hW78 (HNn77.out.st3 (by simp) _ _ _))
   clear HNn77
   clear hW78 HS77
   clear p2
   refine wpAnyH_done (by kernel_rfl) ?_ _
   go_wp2_with fail
   refine namedPost fun W79 hW79 => ?_
   have HS79 := hide (St.onto hW79 HS78.out)
   have HNn79 := hide (Nx.onto hW79 HNn78.out)
   clear HNn78
   clear hW79 HS78
   exact ended_pn rfl rfl rfl (HS79.out.get 1 rfl) (HS79.out.get 2 rfl) ⟨⟨_, _, _, _, _, _, _, _, rfl, HNn79.out.out, ⟨by omega, by omega, by omega⟩, by rw [cntOf]; omega⟩, HS79.out.below⟩
  have hx6 : cntL ds + 8 * (i + 1) ≤ 8 * x := hx5.elim (fun h => h.2) (fun h => by cases h)
  clear hx5
  have hcl := len_cntL ds
  have p0 := rD HSr
  go_wp2_with fail
  obtain ⟨t80, ht80⟩ : ∃ t, tokAt l x false = t := ⟨_, rfl⟩
  have hok80 := tokAt_ok hi.2.2 x false
  rw [ht80] at hok80
  obtain ⟨hkb80, hz80, hone80⟩ := hok80
  have HT80 := hide ht80
  clear ht80
  have Hone80 := hide hone80
  clear hone80
  have hfa80 := fieldT0 t80.kind t80.text
  have hfb80 := fieldT1 t80.kind t80.text
  refine (tok_any (hi.below HSr.out.below)).mono ?_
  rintro e w81 ⟨rfl, hb81⟩
  rw [HT80.out]
  have HS81 := hide (HSr.out.call hb81)
  have HRk81 := hide (HRk.out.call hb81)
  clear HRk
  clear hb81 HSr
  clear p0
  have p0 := rD HS81
  by_cases hk82 : t80.kind = 11
  ·
   have he83 : (t80.kind == 11) = true := by simpa using hk82
   have hn83 : (t80.kind != 11) = false := by simpa using hk82
   have HK83 := hide hk82
   clear hk82
   go_wp2_with fail
   clear p0
   refine namedWp fun W85 hW85 => ?_
   have HS85 := hide (St.onto hW85 HS81.out)
   have HRk85 := hide (Px.onto hW85 HRk81.out)
   clear HRk81
   clear hW85 HS81
   have HNn84 := hide (show Nx w W85 [w.heap.size, w.heap.size + 1, w.heap.size + 1 + 1, w.heap.size + 1 + 1 + 1] (Nd.of 6 ⟨#[]⟩ ds) (.agg #[.int .i64 6, .string ⟨#[]⟩, .slice y q c]) from Px.node HRk85.out (by omega) (by decide))
   clear HRk85
   refine namedWp fun W86 hW86 => ?_
   have HS86 := hide (St.onto hW86 HS85.out)
   have HNn86 := hide (Nx.onto hW86 HNn84.out)
   clear HNn84
   clear hW86 HS85
   refine rgn HS86.out [0, 3] fun W87 hW87 => ?_
   have HS87 := hide (St.onto hW87 HS86.out.dr)
   have HNn87 := hide (Nx.onto hW87 HNn86.out.dr)
   clear HNn86
   clear hW87 HS86
   refine tK 0 (kS HS87.out [0, 3]) ?_
   refine tK 2 (kS HS87.out [0, 3]) ?_
   refine rY 1 fun K hK => ?_
   go_simp
   refine (one_any 11 (hi.below HS87.out.below) (by omega) (by decide)).mono ?_
   rintro e w89 ⟨⟨i88, bad88, rfl, hr88, hkk88⟩, hb89⟩
   have HS89 := hide (HS87.out.call hb89)
   have HNn89 := hide (HNn87.out.call hb89)
   clear HNn87
   clear hb89 HS87
   obtain ⟨hi88, hl88, hp88, hj88⟩ := hr88.out (by omega)
   have hq88 := hr88.less (by omega)
   have hnx88 := StepR.one hr88
   clear hr88 hkk88
   go_simp
   refine onK hK (kS HS89.out [0, 3]) ?_
   clear hK K
   refine rY 3 fun K hK => ?_
   have p1 := rG HS89 1
   go_simp
   refine onW hK (kS (HS89.out.st3 1 rfl _ _ _) [0, 3]) fun W90 hW90 => ?_
   clear hK K
   have HS90 := onS hW90 (HS89.out.st3 1 rfl _ _ _)
   have HNn90 := hide (Nx.onto hW90 (HNn89.out.st3 (by simp) _ _ _))
   clear HNn89
   clear hW90 HS89
   clear p1
   refine rY 4 fun K hK => ?_
   have p2 := rG HS90 2
   go_simp
   refine onW hK (kS (HS90.out.st3 2 rfl _ _ _) [0, 3]) fun W91 hW91 => ?_
   clear hK K
   have HS91 := onS hW91 (HS90.out.st3 2 rfl _ _ _)
   have HNn91 := hide (Nx.onto hW91 (HNn90.out.st3 (by simp) _ _ _))
   clear HNn90
   clear hW91 HS90
   clear p2
   refine wpAnyH_done (by kernel_rfl) ?_ _
   go_wp2_with fail
   refine namedPost fun W92 hW92 => ?_
   have HS92 := hide (St.onto hW92 HS91.out)
   have HNn92 := hide (Nx.onto hW92 HNn91.out)
   clear HNn91
   clear hW92 HS91
   exact ended_pn rfl rfl rfl (HS92.out.get 1 rfl) (HS92.out.get 2 rfl) ⟨⟨_, _, _, _, _, _, _, _, rfl, HNn92.out.out, ⟨by omega, by omega, by omega⟩, by rw [cntOf]; omega⟩, HS92.out.below⟩
  have he93 : (t80.kind == 11) = false := by simpa using hk82
  have hn93 : (t80.kind != 11) = true := by simpa using hk82
  clear hk82
  go_wp2_with fail
  refine (tok_any (hi.below HS81.out.below)).mono ?_
  rintro e w94 ⟨rfl, hb94⟩
  rw [HT80.out]
  have HS94 := hide (HS81.out.call hb94)
  have HRk94 := hide (HRk81.out.call hb94)
  clear HRk81
  clear hb94 HS81
  clear p0
  have p0 := rD HS94
  by_cases hk95 : t80.kind = 8
  ·
   have he96 : (t80.kind == 8) = true := by simpa using hk95
   have hn96 : (t80.kind != 8) = false := by simpa using hk95
   have HK96 := hide hk95
   clear hk95
   have hlt97 := (tokAt_kind (l := l) (i := x) (b := false) (by rw [HT80.out, HK96.out]; decide)).2
   go_wp2_with fail
   have HRk98 := hide (show Px w w94 [w.heap.size, w.heap.size + 1, w.heap.size + 1 + 1, w.heap.size + 1 + 1 + 1] (.slice y q c) ds [.mk 7 t80.text .nil] [.int .i64 7, .string t80.text, .slice none 0 0] from Px.leaf HRk94.out (by omega) (by simp only [maxLen]; omega))
   clear HRk94
   refine namedWp fun W99 hW99 => ?_
   have HS99 := hide (St.onto hW99 HS94.out)
   have HRk99 := hide (Px.onto hW99 HRk98.out)
   clear HRk98
   clear hW99 HS94
   clear p0
   refine rgn HS99.out [0] fun W100 hW100 => ?_
   have HS100 := hide (St.onto hW100 HS99.out.dr)
   have HRk100 := hide (Px.onto hW100 HRk99.out.dr)
   clear HRk99
   clear hW100 HS99
   refine tK 0 (kS HS100.out [0]) ?_
   refine tK 2 (kS HS100.out [0]) ?_
   refine rY2 1 3 (fun K hK => ?_) (fun K hK => ?_)
   ·
    have p3 := rG HS100 3
    go_simp
    refine onK hK (kS HS100.out [0]) ?_
    clear hK K
    refine rY 3 fun K hK => ?_
    go_simp
    refine (tok_any (hi.below HS100.out.below)).mono ?_
    rintro e w101 ⟨rfl, hb101⟩
    rw [HT80.out]
    have HS101 := hide (HS100.out.call hb101)
    have HRk101 := hide (HRk100.out.call hb101)
    clear HRk100
    clear hb101 HS100
    clear p3
    have p0 := rD HS101
    go_simp
    refine onK hK (kS HS101.out [0]) ?_
    clear hK K
    refine tK 4 (kS HS101.out [0]) ?_
    refine tK 5 (kS HS101.out [0]) ?_
    refine rY 6 fun K hK => ?_
    clear p0
    obtain ⟨v102, w102, hr102, hH102, hS102⟩ := HRk101.out.snoc HS101.out rfl (by simp only [List.length_cons, List.length_nil]; omega) (by simp)
    simp only [List.length_cons, List.length_nil, Nat.zero_add] at hr102
    obtain ⟨y102, n102, c102, rfl⟩ := hH102.form'
    have HX102 := hide hr102
    clear hr102
    go_simp
    refine onK hK (kS (HS101.out.al _) [0]) ?_
    clear hK K
    refine rY 7 fun K hK => ?_
    rw [if_pos (show Region.wanted _ _ = true from rfl)]
    refine wp_append_run (.tmp 34) (.tmp 39) rfl rfl rfl rfl HX102.out ?_
    refine onK hK (kS hS102 [0]) ?_
    clear hK K
    clear HX102 HS101 HRk101
    have HS102 := hide hS102
    have HRk102 := hide hH102
    clear hS102 hH102
    refine tK 8 (kS HS102.out [0]) ?_
    refine rY 9 fun K hK => ?_
    have p3 := rG HS102 3
    go_simp
    refine onW hK (kS (HS102.out.st 3 rfl 2 _) [0]) fun W103 hW103 => ?_
    clear hK K
    have HS103 := onS hW103 (HS102.out.st 3 rfl 2 _)
    have HRk103 := hide (Px.onto hW103 (HRk102.out.st (by simp) _ _))
    clear HRk102
    clear hW103 HS102
    clear p3
    refine wpAnyH_done (by kernel_rfl) ?_ _
    have p0 := rD HS103
    go_wp2_with fail
    refine (next_in (n := l.length) ⟨_, _, _, rfl⟩ (by omega) hlen).mono ?_
    rintro e w105 ⟨⟨j104, rfl, hj104, hl104, hp104⟩, hb105⟩
    have HS105 := hide (HS103.out.call hb105)
    have HRk105 := hide (HRk103.out.call hb105)
    clear HRk103
    clear hb105 HS103
    clear p0
    have p0 := rD HS105
    go_wp2_with fail
    exact ⟨⟨j104, false, _, _, _, _, (HS105.out.st3 0 rfl _ _ _).cut 4 rfl, (HRk105.out.st3 (by simp) _ _ _).fewer (by simp), ⟨by omega, by omega, by omega, by rw [cntL_app, cntL_one, cntLeaf]; omega⟩, Or.inl ⟨rfl, by rw [cntL_app, cntL_one, cntLeaf]; omega⟩⟩, by rw [leftAt_of ((HS105.out.st3 0 rfl _ _ _).get 0 rfl), leftAt_of hMp]; omega⟩
   go_simp
   refine (tok_any (hi.below HS100.out.below)).mono ?_
   rintro e w106 ⟨rfl, hb106⟩
   rw [HT80.out]
   have HS106 := hide (HS100.out.call hb106)
   have HRk106 := hide (HRk100.out.call hb106)
   clear HRk100
   clear hb106 HS100
   have p0 := rD HS106
   go_simp
   refine onK hK (kS HS106.out [0]) ?_
   clear hK K
   refine tK 4 (kS HS106.out [0]) ?_
   refine tK 5 (kS HS106.out [0]) ?_
   refine rY2 1 6 (fun K hK => ?_) (fun K hK => ?_)
   ·
    clear p0
    have p3 := rG HS106 3
    go_simp
    refine onK hK (kS HS106.out [0]) ?_
    clear hK K
    refine rY 6 fun K hK => ?_
    clear p3
    obtain ⟨v107, w107, hr107, hH107, hS107⟩ := HRk106.out.snoc HS106.out rfl (by simp only [List.length_cons, List.length_nil]; omega) (by simp)
    simp only [List.length_cons, List.length_nil, Nat.zero_add] at hr107
    obtain ⟨y107, n107, c107, rfl⟩ := hH107.form'
    have HX107 := hide hr107
    clear hr107
    go_simp
    refine onK hK (kS (HS106.out.al _) [0]) ?_
    clear hK K
    refine rY 7 fun K hK => ?_
    rw [if_pos (show Region.wanted _ _ = true from rfl)]
    refine wp_append_run (.tmp 34) (.tmp 39) rfl rfl rfl rfl HX107.out ?_
    refine onK hK (kS hS107 [0]) ?_
    clear hK K
    clear HX107 HS106 HRk106
    have HS107 := hide hS107
    have HRk107 := hide hH107
    clear hS107 hH107
    refine tK 8 (kS HS107.out [0]) ?_
    refine rY 9 fun K hK => ?_
    have p3 := rG HS107 3
    go_simp
    refine onW hK (kS (HS107.out.st 3 rfl 2 _) [0]) fun W108 hW108 => ?_
    clear hK K
    have HS108 := onS hW108 (HS107.out.st 3 rfl 2 _)
    have HRk108 := hide (Px.onto hW108 (HRk107.out.st (by simp) _ _))
    clear HRk107
    clear hW108 HS107
    clear p3
    refine wpAnyH_done (by kernel_rfl) ?_ _
    have p0 := rD HS108
    go_wp2_with fail
    refine (next_in (n := l.length) ⟨_, _, _, rfl⟩ (by omega) hlen).mono ?_
    rintro e w110 ⟨⟨j109, rfl, hj109, hl109, hp109⟩, hb110⟩
    have HS110 := hide (HS108.out.call hb110)
    have HRk110 := hide (HRk108.out.call hb110)
    clear HRk108
    clear hb110 HS108
    clear p0
    have p0 := rD HS110
    go_wp2_with fail
    exact ⟨⟨j109, false, _, _, _, _, (HS110.out.st3 0 rfl _ _ _).cut 4 rfl, (HRk110.out.st3 (by simp) _ _ _).fewer (by simp), ⟨by omega, by omega, by omega, by rw [cntL_app, cntL_one, cntLeaf]; omega⟩, Or.inl ⟨rfl, by rw [cntL_app, cntL_one, cntLeaf]; omega⟩⟩, by rw [leftAt_of ((HS110.out.st3 0 rfl _ _ _).get 0 rfl), leftAt_of hMp]; omega⟩
   clear p0
   obtain ⟨v111, w111, hr111, hH111, hS111⟩ := HRk106.out.snoc HS106.out rfl (by simp only [List.length_cons, List.length_nil]; omega) (by simp)
   simp only [List.length_cons, List.length_nil, Nat.zero_add] at hr111
   obtain ⟨y111, n111, c111, rfl⟩ := hH111.form'
   have HX111 := hide hr111
   clear hr111
   go_simp
   refine onK hK (kS (HS106.out.al _) [0]) ?_
   clear hK K
   refine rY 1 fun K hK => ?_
   obtain ⟨z1110, z1111, z1112, z1113, z1114, z1115⟩ := ((HS106.out.al (.cells #[.int .i64 7, .string t80.text, .slice none 0 0] 24)).get 3 rfl).three
   go_simp
   refine onK hK (kS (HS106.out.al _) [0]) ?_
   clear hK K
   clear z1110 z1111 z1112 z1113 z1114 z1115
   refine rY 7 fun K hK => ?_
   rw [if_pos (show Region.wanted _ _ = true from rfl)]
   refine wp_append_run (.tmp 34) (.tmp 39) rfl rfl rfl rfl HX111.out ?_
   refine onK hK (kS hS111 [0]) ?_
   clear hK K
   clear HX111 HS106 HRk106
   have HS111 := hide hS111
   have HRk111 := hide hH111
   clear hS111 hH111
   refine tK 8 (kS HS111.out [0]) ?_
   refine rY 9 fun K hK => ?_
   have p3 := rG HS111 3
   go_simp
   refine onW hK (kS (HS111.out.st 3 rfl 2 _) [0]) fun W112 hW112 => ?_
   clear hK K
   have HS112 := onS hW112 (HS111.out.st 3 rfl 2 _)
   have HRk112 := hide (Px.onto hW112 (HRk111.out.st (by simp) _ _))
   clear HRk111
   clear hW112 HS111
   clear p3
   refine wpAnyH_done (by kernel_rfl) ?_ _
   have p0 := rD HS112
   go_wp2_with fail
   refine (next_in (n := l.length) ⟨_, _, _, rfl⟩ (by omega) hlen).mono ?_
   rintro e w114 ⟨⟨j113, rfl, hj113, hl113, hp113⟩, hb114⟩
   have HS114 := hide (HS112.out.call hb114)
   have HRk114 := hide (HRk112.out.call hb114)
   clear HRk112
   clear hb114 HS112
   clear p0
   have p0 := rD HS114
   go_wp2_with fail
   exact ⟨⟨j113, false, _, _, _, _, (HS114.out.st3 0 rfl _ _ _).cut 4 rfl, (HRk114.out.st3 (by simp) _ _ _).fewer (by simp), ⟨by omega, by omega, by omega, by rw [cntL_app, cntL_one, cntLeaf]; omega⟩, Or.inl ⟨rfl, by rw [cntL_app, cntL_one, cntLeaf]; omega⟩⟩, by rw [leftAt_of ((HS114.out.st3 0 rfl _ _ _).get 0 rfl), leftAt_of hMp]; omega⟩
  have he115 : (t80.kind == 8) = false := by simpa using hk95
  have hn115 : (t80.kind != 8) = true := by simpa using hk95
  clear hk95
  go_wp2_with fail
  refine (one_any 9 (hi.below HS94.out.below) (by omega) (by decide)).mono ?_
  rintro e w117 ⟨⟨i116, bad116, rfl, hr116, hkk116⟩, hb117⟩
  have HS117 := hide (HS94.out.call hb117)
  have HRk117 := hide (HRk94.out.call hb117)
  clear HRk94
  clear hb117 HS94
  clear p0
  obtain ⟨hi116, hl116, hp116, hj116⟩ := hr116.out (by omega)
  have hq116 := hr116.less (by omega)
  have hnx116 := StepR.one hr116
  clear hr116 hkk116
  have p0 := rD HS117
  go_wp2_with fail
  have hb1 : leftP l.length i116 bad116 < m + 1 := by omega
  refine (HK.out.pipe (hi.below HS117.out.below) (by omega) (by omega)).mono ?_
  rintro e w118 ⟨⟨i118, bad118, d118, k118, s118, y118, m118, c118, rfl, hn118, ⟨hi118, hl118, hp118⟩, hc118⟩, hb118⟩
  have HS118 := hide (HS117.out.call hb118)
  have HRk118 := hide (Px.made HRk117.out hn118 hb118 HS117.out rfl)
  clear HRk117
  have HNx118 := hide (show Nx w w118 [w.heap.size, w.heap.size + 1, w.heap.size + 1 + 1, w.heap.size + 1 + 1 + 1] _ _ from Nx.made hn118 HS117.out)
  clear hn118 hb118 HS117
  clear p0
  have p0 := rD HS118
  have lv119 := lV HS118
  have hSt119 : St w ((w118.alloc (.cells #[.slice a l.length cap, .int .i64 i118, .bool bad118] 86)).alloc (.cells #[.int .i64 k118, .string s118, .slice y118 m118 c118] 24)) [pe w.heap.size a l cap x false, pz (w.heap.size + 1), nz (w.heap.size + 1 + 1), ne (w.heap.size + 1 + 1 + 1) 6 ⟨#[]⟩ y q c, pe w118.heap.size a l cap i118 bad118, ne (w118.heap.size + 1) k118 s118 y118 m118 c118] := ((HS118.out.var 86 _ (by simp)).var 24 _ (by simp))
  have hPx119 : Px w ((w118.alloc (.cells #[.slice a l.length cap, .int .i64 i118, .bool bad118] 86)).alloc (.cells #[.int .i64 k118, .string s118, .slice y118 m118 c118] 24)) [w.heap.size, w.heap.size + 1, w.heap.size + 1 + 1, w.heap.size + 1 + 1 + 1, w118.heap.size, w118.heap.size + 1] (.slice y q c) ds [d118] [.int .i64 k118, .string s118, .slice y118 m118 c118] := ((HRk118.out.var (g := w118.heap.size) (by simp) _).var (g := w118.heap.size + 1) (by simp) _)
  obtain ⟨v119, w119, hr119, hH119, hS119⟩ := hPx119.snoc hSt119 rfl (by simp only [List.length_cons, List.length_nil]; omega) (by simp)
  simp only [World.size_alloc, List.length_cons, List.length_nil, Nat.zero_add] at hr119
  obtain ⟨y119, n119, c119, rfl⟩ := hH119.form'
  clear hSt119 hPx119 HS118 HRk118 HNx118
  have HS119 := hide hS119
  have HRk119 := hide hH119
  clear hS119 hH119
  have rr0 := rD HS119
  go_wp2_with (at_builtin; refine wpList_append_run rfl _ _ (by rfl) (by rfl) (by rfl) (by rfl) hr119 ?_)
  clear hr119 p0
  go_wp2_with fail
  refine named fun W120 hW120 => ?_
  have HS120 := onS hW120 (HS119.out.st 3 rfl 2 _)
  have HRk120 := hide (Px.onto hW120 (HRk119.out.st (by simp) _ _))
  clear HRk119
  clear hW120 HS119
  clear rr0
  refine (one_any 10 (hi.below HS120.out.below) (by omega) (by decide)).mono ?_
  rintro e w122 ⟨⟨i121, bad121, rfl, hr121, hkk121⟩, hb122⟩
  have HS122 := hide (HS120.out.call hb122)
  have HRk122 := hide (HRk120.out.call hb122)
  clear HRk120
  clear hb122 HS120
  obtain ⟨hi121, hl121, hp121, hj121⟩ := hr121.out (by omega)
  have hnx121 := StepR.one hr121
  clear hr121 hkk121
  have p0 := rD HS122
  go_wp2_with fail
  exact ⟨⟨i121, bad121, _, _, _, _, (HS122.out.st3 0 rfl _ _ _).cut 4 rfl, (HRk122.out.st3 (by simp) _ _ _).fewer (by simp), ⟨by omega, by omega, by omega, by rw [cntL_app, cntL_one]; omega⟩, by
    rcases hnx116 with ⟨h1, h2⟩ | ⟨h1, h2⟩
    · rcases hnx121 with ⟨h3, h4⟩ | ⟨h3, -⟩
      · exact Or.inl ⟨h3, by rw [cntL_app, cntL_one]; omega⟩
      · exact Or.inr h3
    · subst h1
      obtain rfl := left_b hp118
      exact Or.inr (left_b hp121)⟩, by rw [leftAt_of ((HS122.out.st3 0 rfl _ _ _).get 0 rfl), leftAt_of hMp]; omega⟩
end Go.Proofs.YtacgmmpdichlmaaGreat
