/-
  The reference's key: of a pair, or a pattern. Its condition: the parser's items lie in memory.
-/
import Derived.Test.YtacgmmpdichlmaaGreatM04
namespace Go.Proofs.YtacgmmpdichlmaaGreat
open Go.RowKit
attribute [local go_sem ↓] Go.wp_at_zero Go.wp_at_succ

set_option maxRecDepth 4000 in
set_option maxHeartbeats 4000000 in
theorem keyOf_k {l : List Tk} {a : Option Addr} {cap m : Nat} (K : Kn l a cap m) (hstr : ∀ ⦃i : Nat⦄ ⦃bad : Bool⦄ ⦃w : World⦄, Its w a l → i ≤ l.length → leftP l.length i bad ≤ m → Calls Tryz.prog 88 #[.agg #[.slice a l.length cap, .int .i64 i, .bool bad]] w (PN l a cap w i bad 2)) (pat : Bool) {i : Nat} {bad : Bool} {w : World} (hi : Its w a l) (hat : i ≤ l.length) (hm : leftP l.length i bad ≤ m) : Calls Tryz.prog 118 #[.agg #[.slice a l.length cap, .int .i64 i, .bool bad], .bool pat] w (KN l a cap w i bad 2) := by
  have HK := hide K
  have hlen := hi.2.1
  clear K
  have Hstr := hide hstr
  clear hstr
  go_enter Tryz.func118, Tryz.ntmps118
  go_wp2_with fail
  refine named fun W1 hW1 => ?_
  have HS1 := onS hW1 (St.nil w).va.va.va
  clear hW1
  obtain ⟨t2, ht2⟩ : ∃ t, tokAt l i bad = t := ⟨_, rfl⟩
  have hok2 := tokAt_ok hi.2.2 i bad
  rw [ht2] at hok2
  obtain ⟨hkb2, hz2, hone2⟩ := hok2
  have HT2 := hide ht2
  clear ht2
  have Hone2 := hide hone2
  clear hone2
  have hfa2 := fieldT0 t2.kind t2.text
  have hfb2 := fieldT1 t2.kind t2.text
  refine (tok_any (hi.below HS1.out.below)).mono ?_
  rintro e w3 ⟨rfl, hb3⟩
  rw [HT2.out]
  have HS3 := hide (HS1.out.call hb3)
  clear hb3 HS1
  have p0 := rD HS3
  by_cases hk4 : t2.kind = 5
  ·
   have h1s : (1 : Int) ≤ (t2.text.size : Int) := by have := Hone2.out (by omega); omega
   have he5 : (t2.kind == 5) = true := by simpa using hk4
   have hn5 : (t2.kind != 5) = false := by simpa using hk4
   have HK5 := hide hk4
   clear hk4
   obtain ⟨rfl, hlt6⟩ := tokAt_kind (l := l) (i := i) (b := bad) (by rw [HT2.out, HK5.out]; decide)
   go_wp2_with fail
   have lv7 := lV HS3
   refine namedWp fun W7 hW7 => ?_
   have HS7 := onS hW7 HS3.out.va
   clear hW7 HS3
   clear p0
   have HNres8 := hide (show Nx w W7 [w.heap.size, w.heap.size + 1, w.heap.size + 1 + 1, w3.heap.size] (Nd.mk 4 (t2.text.extract 1 t2.text.size) .nil) (.agg #[.int .i64 4, .string (t2.text.extract 1 t2.text.size), .slice none 0 0]) from Nx.leaf (by omega) (by simp only [ByteArray.size_extract, maxLen]; omega))
   refine namedWp fun W9 hW9 => ?_
   have HS9 := hide (St.onto hW9 HS7.out)
   have HNres9 := hide (Nx.onto hW9 HNres8.out)
   clear HNres8
   clear hW9 HS7
   refine rgn HS9.out [0, 3] fun W10 hW10 => ?_
   have HS10 := hide (St.onto hW10 HS9.out.dr)
   have HNres10 := hide (Nx.onto hW10 HNres9.out.dr)
   clear HNres9
   clear hW10 HS9
   refine tK 0 (kS HS10.out [0, 3]) ?_
   refine tK 2 (kS HS10.out [0, 3]) ?_
   refine tK 3 (kS HS10.out [0, 3]) ?_
   refine tK 4 (kS HS10.out [0, 3]) ?_
   refine tK 5 (kS HS10.out [0, 3]) ?_
   refine rY 1 fun K hK => ?_
   go_simp
   refine (next_in (n := l.length) ⟨_, _, _, rfl⟩ (by omega) hlen).mono ?_
   rintro e w12 ⟨⟨j11, rfl, hj11, hl11, hp11⟩, hb12⟩
   have HS12 := hide (HS10.out.call hb12)
   have HNres12 := hide (HNres10.out.call hb12)
   clear HNres10
   clear hb12 HS10
   go_simp
   refine onK hK (kS HS12.out [0, 3]) ?_
   clear hK K
   refine rY 6 fun K hK => ?_
   have p1 := rG HS12 1
   go_simp
   refine onW hK (kS (HS12.out.st3 1 rfl _ _ _) [0, 3]) fun W13 hW13 => ?_
   clear hK K
   have HS13 := onS hW13 (HS12.out.st3 1 rfl _ _ _)
   have HNres13 := hide (Nx.onto hW13 (HNres12.out.st3 (by simp) _ _ _))
   clear HNres12
   clear hW13 HS12
   clear p1
   refine rY 7 fun K hK => ?_
   have p2 := rG HS13 2
   go_simp
   refine onW hK (kS (HS13.out.st3 2 rfl _ _ _) [0, 3]) fun W14 hW14 => ?_
   clear hK K
   have HS14 := onS hW14 (HS13.out.st3 2 rfl _ _ _)
   have HNres14 := hide (Nx.onto hW14 (HNres13.out.st3 (by simp) _ _ _))
   clear HNres13
   clear hW14 HS13
   clear p2
   refine tK 8 (kS HS14.out [0, 3]) ?_
   refine wpAnyH_done (by kernel_rfl) ?_ _
   go_wp2_with fail
   refine namedPost fun W15 hW15 => ?_
   have HS15 := hide (St.onto hW15 HS14.out)
   have HNres15 := hide (Nx.onto hW15 HNres14.out)
   clear HNres14
   clear hW15 HS14
   exact ended_pnb rfl rfl rfl rfl (HS15.out.get 1 rfl) (HS15.out.get 2 rfl) ⟨⟨_, _, _, _, _, _, _, _, _, rfl, HNres15.out.out, ⟨by omega, by omega, by omega⟩, by rw [cntLeaf]; omega⟩, HS15.out.below⟩
  have he16 : (t2.kind == 5) = false := by simpa using hk4
  have hn16 : (t2.kind != 5) = true := by simpa using hk4
  clear hk4
  by_cases hk17 : t2.kind = 3
  ·
   have he18 : (t2.kind == 3) = true := by simpa using hk17
   have hn18 : (t2.kind != 3) = false := by simpa using hk17
   have HK18 := hide hk17
   clear hk17
   obtain ⟨rfl, hlt19⟩ := tokAt_kind (l := l) (i := i) (b := bad) (by rw [HT2.out, HK18.out]; decide)
   go_wp2_with fail
   have lv20 := lV HS3
   refine namedWp fun W20 hW20 => ?_
   have HS20 := onS hW20 HS3.out.va
   clear hW20 HS3
   clear p0
   have HNres21 := hide (show Nx w W20 [w.heap.size, w.heap.size + 1, w.heap.size + 1 + 1, w3.heap.size] (Nd.mk 31 t2.text .nil) (.agg #[.int .i64 31, .string t2.text, .slice none 0 0]) from Nx.leaf (by omega) (by simp only [maxLen]; omega))
   refine namedWp fun W22 hW22 => ?_
   have HS22 := hide (St.onto hW22 HS20.out)
   have HNres22 := hide (Nx.onto hW22 HNres21.out)
   clear HNres21
   clear hW22 HS20
   refine rgn HS22.out [0, 3] fun W23 hW23 => ?_
   have HS23 := hide (St.onto hW23 HS22.out.dr)
   have HNres23 := hide (Nx.onto hW23 HNres22.out.dr)
   clear HNres22
   clear hW23 HS22
   refine tK 0 (kS HS23.out [0, 3]) ?_
   refine tK 2 (kS HS23.out [0, 3]) ?_
   refine tK 3 (kS HS23.out [0, 3]) ?_
   refine tK 4 (kS HS23.out [0, 3]) ?_
   refine tK 5 (kS HS23.out [0, 3]) ?_
   refine rY 1 fun K hK => ?_
   go_simp
   refine (next_in (n := l.length) ⟨_, _, _, rfl⟩ (by omega) hlen).mono ?_
   rintro e w25 ⟨⟨j24, rfl, hj24, hl24, hp24⟩, hb25⟩
   have HS25 := hide (HS23.out.call hb25)
   have HNres25 := hide (HNres23.out.call hb25)
   clear HNres23
   clear hb25 HS23
   go_simp
   refine onK hK (kS HS25.out [0, 3]) ?_
   clear hK K
   refine rY 6 fun K hK => ?_
   have p1 := rG HS25 1
   go_simp
   refine onW hK (kS (HS25.out.st3 1 rfl _ _ _) [0, 3]) fun W26 hW26 => ?_
   clear hK K
   have HS26 := onS hW26 (HS25.out.st3 1 rfl _ _ _)
   have HNres26 := hide (Nx.onto hW26 (HNres25.out.st3 (by simp) _ _ _))
   clear HNres25
   clear hW26 HS25
   clear p1
   refine rY 7 fun K hK => ?_
   have p2 := rG HS26 2
   go_simp
   refine onW hK (kS (HS26.out.st3 2 rfl _ _ _) [0, 3]) fun W27 hW27 => ?_
   clear hK K
   have HS27 := onS hW27 (HS26.out.st3 2 rfl _ _ _)
   have HNres27 := hide (Nx.onto hW27 (HNres26.out.st3 (by simp) _ _ _))
   clear HNres26
   clear hW27 HS26
   clear p2
   refine tK 8 (kS HS27.out [0, 3]) ?_
   refine wpAnyH_done (by kernel_rfl) ?_ _
   go_wp2_with fail
   refine namedPost fun W28 hW28 => ?_
   have HS28 := hide (St.onto hW28 HS27.out)
   have HNres28 := hide (Nx.onto hW28 HNres27.out)
   clear HNres27
   clear hW28 HS27
   exact ended_pnb rfl rfl rfl rfl (HS28.out.get 1 rfl) (HS28.out.get 2 rfl) ⟨⟨_, _, _, _, _, _, _, _, _, rfl, HNres28.out.out, ⟨by omega, by omega, by omega⟩, by rw [cntLeaf]; omega⟩, HS28.out.below⟩
  have he29 : (t2.kind == 3) = false := by simpa using hk17
  have hn29 : (t2.kind != 3) = true := by simpa using hk17
  clear hk17
  go_wp2_with fail
  have lv30 := lV HS3
  refine named fun W30 hW30 => ?_
  have HS30 := onS hW30 HS3.out.va
  clear hW30 HS3
  clear p0
  refine (op_any ⟨#[40]⟩ (hi.below HS30.out.below)).mono ?_
  rintro e w31 ⟨rfl, hb31⟩
  have HS31 := hide (HS30.out.call hb31)
  clear hb31 HS30
  have p0 := rD HS31
  cases hq32 : opB (tokAt l i bad) ⟨#[40]⟩
  case true =>
   obtain ⟨rfl, hlt33⟩ := opB_in hq32
   clear hq32
   go_wp2_with fail
   refine (next_in (n := l.length) ⟨_, _, _, rfl⟩ (by omega) hlen).mono ?_
   rintro e w35 ⟨⟨j34, rfl, hj34, hl34, hp34⟩, hb35⟩
   have HS35 := hide (HS31.out.call hb35)
   clear hb35 HS31
   clear p0
   have p0 := rD HS35
   go_wp2_with fail
   refine (HK.out.pipe (hi.below HS35.out.below) (by omega) (by omega)).mono ?_
   rintro e w36 ⟨⟨i36, bad36, d36, k36, s36, y36, m36, c36, rfl, hn36, ⟨hi36, hl36, hp36⟩, hc36⟩, hb36⟩
   have HS36 := hide (HS35.out.call hb36)
   have HNx36 := hide (show Nx w w36 [w.heap.size, w.heap.size + 1, w.heap.size + 1 + 1, w3.heap.size] _ _ from Nx.made hn36 HS35.out)
   clear hn36 hb36 HS35
   clear p0
   have p0 := rD HS36
   go_wp2_with fail
   have lv37 := lV HS36
   refine namedWp fun W37 hW37 => ?_
   have HS37 := onS hW37 HS36.out.va.va
   have HNx37 := hide (Nx.onto hW37 ((HNx36.out.var (g := w36.heap.size) (by simp) _).var (g := w36.heap.size + 1) (by simp) _))
   clear HNx36
   clear hW37 HS36
   clear p0
   refine namedWp fun W38 hW38 => ?_
   have HS38 := hide (St.onto hW38 HS37.out)
   have HNx38 := hide (Nx.onto hW38 HNx37.out)
   clear HNx37
   clear hW38 HS37
   refine rgn HS38.out [4, 5] fun W39 hW39 => ?_
   have HS39 := hide (St.onto hW39 HS38.out.dr)
   have HNx39 := hide (Nx.onto hW39 HNx38.out.dr)
   clear HNx38
   clear hW39 HS38
   refine tK 0 (kS HS39.out [4, 5]) ?_
   refine tK 2 (kS HS39.out [4, 5]) ?_
   refine rY2 1 3 (fun K hK => ?_) (fun K hK => ?_)
   ·
    go_simp
    refine (need_any ⟨#[41]⟩ (hi.below HS39.out.below) (by omega)).mono ?_
    rintro e w41 ⟨⟨i40, bad40, rfl, hr40⟩, hb41⟩
    have HS41 := hide (HS39.out.call hb41)
    have HNx41 := hide (HNx39.out.call hb41)
    clear HNx39
    clear hb41 HS39
    obtain ⟨hi40, hl40, hp40, hj40⟩ := hr40.out (by omega)
    clear hr40
    go_simp
    refine onK hK (kS HS41.out [4, 5]) ?_
    clear hK K
    refine rY2 3 5 (fun K hK => ?_) (fun K hK => ?_)
    ·
     go_simp
     refine onW hK (kS (HS41.out.al _) [4, 5]) fun W42 hW42 => ?_
     clear hK K
     have HS42 := hide (St.onto hW42 (HS41.out.al _))
     have HNx42 := hide (Nx.onto hW42 (HNx41.out.al _))
     have HNres42 := hide (show Nx w W42 [w.heap.size, w.heap.size + 1, w.heap.size + 1 + 1, w3.heap.size, w36.heap.size, w36.heap.size + 1] (Nd.of 32 ⟨#[]⟩ [d36]) (.agg #[.int .i64 32, .string ⟨#[]⟩, .slice (some ⟨w41.heap.size, 0, none⟩) 1 1]) from hW42 ▸ (Sx.join (Rx.lit (Rx.cons HNx41.out (Rx.nil)) HS41.out rfl (by simp [maxLen])) (by omega) (by decide)))
     clear HNx41
     clear hW42 HS41
     refine tK 4 (kS HS42.out [4, 5]) ?_
     refine rY 5 fun K hK => ?_
     have p1 := rG HS42 1
     go_simp
     refine onW hK (kS (HS42.out.st3 1 rfl _ _ _) [4, 5]) fun W43 hW43 => ?_
     clear hK K
     have HS43 := onS hW43 (HS42.out.st3 1 rfl _ _ _)
     have HNx43 := hide (Nx.onto hW43 (HNx42.out.st3 (by simp) _ _ _))
     have HNres43 := hide (Nx.onto hW43 (HNres42.out.st3 (by simp) _ _ _))
     clear HNx42 HNres42
     clear hW43 HS42
     clear p1
     refine rY 6 fun K hK => ?_
     have p2 := rG HS43 2
     go_simp
     refine onW hK (kS (HS43.out.st3 2 rfl _ _ _) [4, 5]) fun W44 hW44 => ?_
     clear hK K
     have HS44 := onS hW44 (HS43.out.st3 2 rfl _ _ _)
     have HNx44 := hide (Nx.onto hW44 (HNx43.out.st3 (by simp) _ _ _))
     have HNres44 := hide (Nx.onto hW44 (HNres43.out.st3 (by simp) _ _ _))
     clear HNx43 HNres43
     clear hW44 HS43
     clear p2
     refine tK 7 (kS HS44.out [4, 5]) ?_
     refine wpAnyH_done (by kernel_rfl) ?_ _
     go_wp2_with fail
     refine namedPost fun W45 hW45 => ?_
     have HS45 := hide (St.onto hW45 HS44.out)
     have HNx45 := hide (Nx.onto hW45 HNx44.out)
     have HNres45 := hide (Nx.onto hW45 HNres44.out)
     clear HNx44 HNres44
     clear hW45 HS44
     exact ended_pnb rfl rfl rfl rfl (HS45.out.get 1 rfl) (HS45.out.get 2 rfl) ⟨⟨_, _, _, _, _, _, _, _, _, rfl, HNres45.out.out, ⟨by omega, by omega, by omega⟩, by rw [cnt1]; omega⟩, HS45.out.below⟩
    have p1 := rG HS41 1
    go_simp
    refine onW hK (kS (HS41.out.st3 1 rfl _ _ _) [4, 5]) fun W46 hW46 => ?_
    clear hK K
    have HS46 := onS hW46 (HS41.out.st3 1 rfl _ _ _)
    have HNx46 := hide (Nx.onto hW46 (HNx41.out.st3 (by simp) _ _ _))
    clear HNx41
    clear hW46 HS41
    clear p1
    refine rY 3 fun K hK => ?_
    go_simp
    refine onW hK (kS (HS46.out.al _) [4, 5]) fun W47 hW47 => ?_
    clear hK K
    have HS47 := hide (St.onto hW47 (HS46.out.al _))
    have HNx47 := hide (Nx.onto hW47 (HNx46.out.al _))
    have HNres47 := hide (show Nx w W47 [w.heap.size, w.heap.size + 1, w.heap.size + 1 + 1, w3.heap.size, w36.heap.size, w36.heap.size + 1] (Nd.of 32 ⟨#[]⟩ [d36]) (.agg #[.int .i64 32, .string ⟨#[]⟩, .slice (some ⟨W46.heap.size, 0, none⟩) 1 1]) from hW47 ▸ (Sx.join (Rx.lit (Rx.cons HNx46.out (Rx.nil)) HS46.out rfl (by simp [maxLen])) (by omega) (by decide)))
    clear HNx46
    clear hW47 HS46
    refine tK 4 (kS HS47.out [4, 5]) ?_
    refine rY 6 fun K hK => ?_
    have p2 := rG HS47 2
    go_simp
    refine onW hK (kS (HS47.out.st3 2 rfl _ _ _) [4, 5]) fun W48 hW48 => ?_
    clear hK K
    have HS48 := onS hW48 (HS47.out.st3 2 rfl _ _ _)
    have HNx48 := hide (Nx.onto hW48 (HNx47.out.st3 (by simp) _ _ _))
    have HNres48 := hide (Nx.onto hW48 (HNres47.out.st3 (by simp) _ _ _))
    clear HNx47 HNres47
    clear hW48 HS47
    clear p2
    refine tK 7 (kS HS48.out [4, 5]) ?_
    refine wpAnyH_done (by kernel_rfl) ?_ _
    go_wp2_with fail
    refine namedPost fun W49 hW49 => ?_
    have HS49 := hide (St.onto hW49 HS48.out)
    have HNx49 := hide (Nx.onto hW49 HNx48.out)
    have HNres49 := hide (Nx.onto hW49 HNres48.out)
    clear HNx48 HNres48
    clear hW49 HS48
    exact ended_pnb rfl rfl rfl rfl (HS49.out.get 1 rfl) (HS49.out.get 2 rfl) ⟨⟨_, _, _, _, _, _, _, _, _, rfl, HNres49.out.out, ⟨by omega, by omega, by omega⟩, by rw [cnt1]; omega⟩, HS49.out.below⟩
   go_simp
   refine onW hK (kS (HS39.out.al _) [4, 5]) fun W50 hW50 => ?_
   clear hK K
   have HS50 := hide (St.onto hW50 (HS39.out.al _))
   have HNx50 := hide (Nx.onto hW50 (HNx39.out.al _))
   have HNres50 := hide (show Nx w W50 [w.heap.size, w.heap.size + 1, w.heap.size + 1 + 1, w3.heap.size, w36.heap.size, w36.heap.size + 1] (Nd.of 32 ⟨#[]⟩ [d36]) (.agg #[.int .i64 32, .string ⟨#[]⟩, .slice (some ⟨W39.heap.size, 0, none⟩) 1 1]) from hW50 ▸ (Sx.join (Rx.lit (Rx.cons HNx39.out (Rx.nil)) HS39.out rfl (by simp [maxLen])) (by omega) (by decide)))
   clear HNx39
   clear hW50 HS39
   refine tK 4 (kS HS50.out [4, 5]) ?_
   refine rY 1 fun K hK => ?_
   go_simp
   refine (need_any ⟨#[41]⟩ (hi.below HS50.out.below) (by omega)).mono ?_
   rintro e w52 ⟨⟨i51, bad51, rfl, hr51⟩, hb52⟩
   have HS52 := hide (HS50.out.call hb52)
   have HNx52 := hide (HNx50.out.call hb52)
   clear HNx50
   have HNres52 := hide (HNres50.out.call hb52)
   clear HNres50
   clear hb52 HS50
   obtain ⟨hi51, hl51, hp51, hj51⟩ := hr51.out (by omega)
   clear hr51
   go_simp
   refine onK hK (kS HS52.out [4, 5]) ?_
   clear hK K
   refine rY 5 fun K hK => ?_
   have p1 := rG HS52 1
   go_simp
   refine onW hK (kS (HS52.out.st3 1 rfl _ _ _) [4, 5]) fun W53 hW53 => ?_
   clear hK K
   have HS53 := onS hW53 (HS52.out.st3 1 rfl _ _ _)
   have HNx53 := hide (Nx.onto hW53 (HNx52.out.st3 (by simp) _ _ _))
   have HNres53 := hide (Nx.onto hW53 (HNres52.out.st3 (by simp) _ _ _))
   clear HNx52 HNres52
   clear hW53 HS52
   clear p1
   refine rY 6 fun K hK => ?_
   have p2 := rG HS53 2
   go_simp
   refine onW hK (kS (HS53.out.st3 2 rfl _ _ _) [4, 5]) fun W54 hW54 => ?_
   clear hK K
   have HS54 := onS hW54 (HS53.out.st3 2 rfl _ _ _)
   have HNx54 := hide (Nx.onto hW54 (HNx53.out.st3 (by simp) _ _ _))
   have HNres54 := hide (Nx.onto hW54 (HNres53.out.st3 (by simp) _ _ _))
   clear HNx53 HNres53
   clear hW54 HS53
   clear p2
   refine tK 7 (kS HS54.out [4, 5]) ?_
   refine wpAnyH_done (by kernel_rfl) ?_ _
   go_wp2_with fail
   refine namedPost fun W55 hW55 => ?_
   have HS55 := hide (St.onto hW55 HS54.out)
   have HNx55 := hide (Nx.onto hW55 HNx54.out)
   have HNres55 := hide (Nx.onto hW55 HNres54.out)
   clear HNx54 HNres54
   clear hW55 HS54
   exact ended_pnb rfl rfl rfl rfl (HS55.out.get 1 rfl) (HS55.out.get 2 rfl) ⟨⟨_, _, _, _, _, _, _, _, _, rfl, HNres55.out.out, ⟨by omega, by omega, by omega⟩, by rw [cnt1]; omega⟩, HS55.out.below⟩
  clear hq32
  by_cases hk56 : t2.kind = 7
  ·
   have he57 : (t2.kind == 7) = true := by simpa using hk56
   have hn57 : (t2.kind != 7) = false := by simpa using hk56
   have HK57 := hide hk56
   clear hk56
   go_wp2_with fail
   refine (Hstr.out (hi.below HS31.out.below) (by omega) (by omega)).mono ?_
   rintro e w58 ⟨⟨i58, bad58, d58, k58, s58, y58, m58, c58, rfl, hn58, ⟨hi58, hl58, hp58⟩, hc58⟩, hb58⟩
   have HS58 := hide (HS31.out.call hb58)
   have HNx58 := hide (show Nx w w58 [w.heap.size, w.heap.size + 1, w.heap.size + 1 + 1, w3.heap.size] _ _ from Nx.made hn58 HS31.out)
   clear hn58 hb58 HS31
   clear p0
   have p0 := rD HS58
   go_wp2_with fail
   have lv59 := lV HS58
   refine namedWp fun W59 hW59 => ?_
   have HS59 := onS hW59 HS58.out.va.va
   have HNx59 := hide (Nx.onto hW59 ((HNx58.out.var (g := w58.heap.size) (by simp) _).var (g := w58.heap.size + 1) (by simp) _))
   clear HNx58
   clear hW59 HS58
   clear p0
   refine namedWp fun W60 hW60 => ?_
   have HS60 := hide (St.onto hW60 HS59.out)
   have HNx60 := hide (Nx.onto hW60 HNx59.out)
   clear HNx59
   clear hW60 HS59
   refine rgn HS60.out [4, 5] fun W61 hW61 => ?_
   have HS61 := hide (St.onto hW61 HS60.out.dr)
   have HNx61 := hide (Nx.onto hW61 HNx60.out.dr)
   clear HNx60
   clear hW61 HS60
   refine tK 0 (kS HS61.out [4, 5]) ?_
   refine tK 1 (kS HS61.out [4, 5]) ?_
   refine tK 2 (kS HS61.out [4, 5]) ?_
   refine rY 3 fun K hK => ?_
   have p1 := rG HS61 1
   go_simp
   refine onW hK (kS (HS61.out.st3 1 rfl _ _ _) [4, 5]) fun W62 hW62 => ?_
   clear hK K
   have HS62 := onS hW62 (HS61.out.st3 1 rfl _ _ _)
   have HNx62 := hide (Nx.onto hW62 (HNx61.out.st3 (by simp) _ _ _))
   clear HNx61
   clear hW62 HS61
   clear p1
   refine rY 4 fun K hK => ?_
   have p2 := rG HS62 2
   go_simp
   refine onW hK (kS (HS62.out.st3 2 rfl _ _ _) [4, 5]) fun W63 hW63 => ?_
   clear hK K
   have HS63 := onS hW63 (HS62.out.st3 2 rfl _ _ _)
   have HNx63 := hide (Nx.onto hW63 (HNx62.out.st3 (by simp) _ _ _))
   clear HNx62
   clear hW63 HS62
   clear p2
   refine tK 5 (kS HS63.out [4, 5]) ?_
   refine wpAnyH_done (by kernel_rfl) ?_ _
   go_wp2_with fail
   refine namedPost fun W64 hW64 => ?_
   have HS64 := hide (St.onto hW64 HS63.out)
   have HNx64 := hide (Nx.onto hW64 HNx63.out)
   clear HNx63
   clear hW64 HS63
   exact ended_pnb rfl rfl rfl rfl (HS64.out.get 1 rfl) (HS64.out.get 2 rfl) ⟨⟨_, _, _, _, _, _, _, _, _, rfl, HNx64.out.out, ⟨by omega, by omega, by omega⟩, by omega⟩, HS64.out.below⟩
  have he65 : (t2.kind == 7) = false := by simpa using hk56
  have hn65 : (t2.kind != 7) = true := by simpa using hk56
  clear hk56
  by_cases hk66 : t2.kind = 12
  ·
   have he67 : (t2.kind == 12) = true := by simpa using hk66
   have hn67 : (t2.kind != 12) = false := by simpa using hk66
   have HK67 := hide hk66
   clear hk66
   go_wp2_with fail
   refine (Hstr.out (hi.below HS31.out.below) (by omega) (by omega)).mono ?_
   rintro e w68 ⟨⟨i68, bad68, d68, k68, s68, y68, m68, c68, rfl, hn68, ⟨hi68, hl68, hp68⟩, hc68⟩, hb68⟩
   have HS68 := hide (HS31.out.call hb68)
   have HNx68 := hide (show Nx w w68 [w.heap.size, w.heap.size + 1, w.heap.size + 1 + 1, w3.heap.size] _ _ from Nx.made hn68 HS31.out)
   clear hn68 hb68 HS31
   clear p0
   have p0 := rD HS68
   go_wp2_with fail
   have lv69 := lV HS68
   refine namedWp fun W69 hW69 => ?_
   have HS69 := onS hW69 HS68.out.va.va
   have HNx69 := hide (Nx.onto hW69 ((HNx68.out.var (g := w68.heap.size) (by simp) _).var (g := w68.heap.size + 1) (by simp) _))
   clear HNx68
   clear hW69 HS68
   clear p0
   refine namedWp fun W70 hW70 => ?_
   have HS70 := hide (St.onto hW70 HS69.out)
   have HNx70 := hide (Nx.onto hW70 HNx69.out)
   clear HNx69
   clear hW70 HS69
   refine rgn HS70.out [4, 5] fun W71 hW71 => ?_
   have HS71 := hide (St.onto hW71 HS70.out.dr)
   have HNx71 := hide (Nx.onto hW71 HNx70.out.dr)
   clear HNx70
   clear hW71 HS70
   refine tK 0 (kS HS71.out [4, 5]) ?_
   refine tK 1 (kS HS71.out [4, 5]) ?_
   refine tK 2 (kS HS71.out [4, 5]) ?_
   refine rY 3 fun K hK => ?_
   have p1 := rG HS71 1
   go_simp
   refine onW hK (kS (HS71.out.st3 1 rfl _ _ _) [4, 5]) fun W72 hW72 => ?_
   clear hK K
   have HS72 := onS hW72 (HS71.out.st3 1 rfl _ _ _)
   have HNx72 := hide (Nx.onto hW72 (HNx71.out.st3 (by simp) _ _ _))
   clear HNx71
   clear hW72 HS71
   clear p1
   refine rY 4 fun K hK => ?_
   have p2 := rG HS72 2
   go_simp
   refine onW hK (kS (HS72.out.st3 2 rfl _ _ _) [4, 5]) fun W73 hW73 => ?_
   clear hK K
   have HS73 := onS hW73 (HS72.out.st3 2 rfl _ _ _)
   have HNx73 := hide (Nx.onto hW73 (HNx72.out.st3 (by simp) _ _ _))
   clear HNx72
   clear hW73 HS72
   clear p2
   refine tK 5 (kS HS73.out [4, 5]) ?_
   refine wpAnyH_done (by kernel_rfl) ?_ _
   go_wp2_with fail
   refine namedPost fun W74 hW74 => ?_
   have HS74 := hide (St.onto hW74 HS73.out)
   have HNx74 := hide (Nx.onto hW74 HNx73.out)
   clear HNx73
   clear hW74 HS73
   exact ended_pnb rfl rfl rfl rfl (HS74.out.get 1 rfl) (HS74.out.get 2 rfl) ⟨⟨_, _, _, _, _, _, _, _, _, rfl, HNx74.out.out, ⟨by omega, by omega, by omega⟩, by omega⟩, HS74.out.below⟩
  have he75 : (t2.kind == 12) = false := by simpa using hk66
  have hn75 : (t2.kind != 12) = true := by simpa using hk66
  clear hk66
  go_wp2_with fail
  refine (wrong_any _ _ _ _ ⟨_, _, _, rfl⟩).mono ?_
  rintro e w77 ⟨rfl, hb77⟩
  have HS77 := hide (HS31.out.call hb77)
  clear hb77 HS31
  clear p0
  have p0 := rD HS77
  go_wp2_with fail
  have hwr76 := left_wrong l.length i bad
  refine namedPost fun W78 hW78 => ?_
  have HS78 := onS hW78 ((HS77.out.st3 1 rfl _ _ _).st3 2 rfl _ _ _)
  have HNres78 := hide (show Nx w W78 [w.heap.size, w.heap.size + 1, w.heap.size + 1 + 1, w3.heap.size] (Nd.mk 0 ⟨#[]⟩ .nil) (.agg #[.int .i64 0, .string ⟨#[]⟩, .slice none 0 0]) from hW78 ▸ (Nx.leaf (by omega) (by decide)))
  clear hW78 HS77
  clear p0
  refine namedPost fun W79 hW79 => ?_
  have HS79 := hide (St.onto hW79 HS78.out)
  have HNres79 := hide (Nx.onto hW79 HNres78.out)
  clear HNres78
  clear hW79 HS78
  exact ended_pnb rfl rfl rfl rfl (HS79.out.get 1 rfl) (HS79.out.get 2 rfl) ⟨⟨_, _, _, _, _, _, _, _, _, rfl, HNres79.out.out, ⟨by omega, by omega, by omega⟩, by rw [cntLeaf]; omega⟩, HS79.out.below⟩
end Go.Proofs.YtacgmmpdichlmaaGreat
