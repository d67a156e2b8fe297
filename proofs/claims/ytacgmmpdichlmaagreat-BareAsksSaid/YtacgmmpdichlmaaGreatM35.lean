/-
  The reference's lexer outside of strings: a token more, or an error. Its condition: a text has at most 65536 bytes.
-/
import Derived.Test.YtacgmmpdichlmaaGreatM29
namespace Go.Proofs.YtacgmmpdichlmaaGreat
open Go.RowKit
attribute [local go_sem ↓] Go.wp_at_zero Go.wp_at_succ

theorem ORow.set {B n i : Nat} {W : World} {g c : Nat} {y : Int} (h : ORow B W (.slice (some ⟨g, 0, none⟩) n c) n) : ORow B (W.setCell ⟨g, i, none⟩ (.int .i64 y)) (.slice (some ⟨g, 0, none⟩) n c) n := by
  obtain ⟨zs, hz, ho⟩ := h
  refine ⟨zs.set i y, by rw [List.length_set, hz], ?_⟩
  rw [List.map_set]
  exact (ho.stored i _).1
theorem ORow.take {B n : Nat} {W : World} {g c : Nat} (h : ORow B W (.slice (some ⟨g, 0, none⟩) (n + 1) c) (n + 1)) : ORow B W (.slice (some ⟨g, 0, none⟩) n c) n := by
  obtain ⟨zs, hz, ho⟩ := h
  refine ⟨zs.take n, by rw [List.length_take, hz]; omega, ?_⟩
  rcases ho.2 with ⟨h', _⟩ | ⟨g', cap', cur, h', hb, hg, hnc, hcm, hcs, htake⟩
  · simp at h'
  simp only [Value.slice.injEq, Option.some.injEq, Addr.mk.injEq, and_true, true_and] at h'
  obtain ⟨rfl, rfl⟩ := h'
  refine ⟨by simp [hz], .inr ⟨g, c, cur, rfl, hb, hg, by omega, hcm, hcs, ?_⟩⟩
  rw [Nat.mul_one] at htake ⊢
  rw [List.map_take, ← htake, List.take_take, Nat.min_eq_left (by omega)]
theorem ORow.open_ {B n : Nat} {W : World} {v : Value} (h : ORow B W v (n + 1)) : ∃ g c z, v = .slice (some ⟨g, 0, none⟩) (n + 1) c ∧ B ≤ g ∧ g < W.heap.size ∧ W.cell? ⟨g, n, none⟩ = some (.int .i64 z) ∧ W.frozen? ⟨g, n, none⟩ = false ∧ n + 1 ≤ c := by
  obtain ⟨zs, hz, ho⟩ := h
  rcases ho.2 with ⟨_, hn⟩ | ⟨g, cap, cur, rfl, hb, hg, hnc, _⟩
  · omega
  · refine ⟨g, cap, zs[n], rfl, hb, (Array.getElem?_eq_some_iff.1 hg).1, ?_, ho.frozenAt n, hnc⟩
    rw [ho.cellAt n (by omega), List.getElem?_map, List.getElem?_eq_getElem (by omega)]
    rfl
theorem textEmpty {s : ByteArray} (h : s.size = 0) : s.toList.isEmpty = true := by rw [toList_no (by omega)]; rfl
set_option maxRecDepth 100000 in
set_option maxHeartbeats 4000000 in
theorem outside_any {w w1 : World} {s : ByteArray} {p n : Nat} {l : List Tk} {tv ov : Value} (hb : Below w.heap.size w w1) (hs : s.size ≤ 65536) (hp : p < s.size) (hl : l.length ≤ p) (hok : ∀ t ∈ l, t.ok) (hn : n ≤ 256) (hT : TRow w.heap.size w1 tv l) (hO : ORow w.heap.size w1 ov n) :
    Calls Tryz.prog 55 #[Lxv s p tv ov false 0] w1 (LexP w.heap.size w1 s p) := by
  obtain ⟨a, c, rfl⟩ := hT.form
  obtain ⟨oa, oc, rfl⟩ := hO.form
  unfold Lxv
  have HOK := hide hok
  have HT := hide hT
  have HO := hide hO
  have HB := hide hb
  have hsz := size_ext s p
  obtain ⟨q, hq⟩ : ∃ q, s.extract p s.size = q := ⟨_, rfl⟩
  have HQ := hide hq
  rw [hq] at hsz
  have hq0 : (0 : Int) < (q.size : Int) := by omega
  have HSZ := hide hsz
  clear hsz
  have hw1 := hb.size
  have HSa := hide (st_start hb)
  have HNbz0 := hide (Bz.start w w1)
  clear hok hT hO hb hq
  go_enter Tryz.func55, Tryz.ntmps55
  go_wp2_with fail
  rw [HQ.out]
  have lv1 := lV HSa
  refine named fun W1 hW1 => ?_
  have HS1 := onS hW1 HSa.out.va.va
  have HNbz1 := hide (Bz.onto hW1 ((HNbz0.out.var (g := w1.heap.size) (by simp) _).var (g := w1.heap.size + 1) (by simp) _))
  clear HNbz0
  clear hW1 HSa
  refine (plainTok_any q _ (by rw [HSZ.out]; omega) (by omega)).mono ?_
  rintro e w2 ⟨⟨t, rfl, ⟨hk1, hk13⟩, m, hm, htx, hone⟩, hb2⟩
  have HS2 := hide (HS1.out.call hb2)
  have HNbz2 := hide (HNbz1.out.call hb2)
  clear HNbz1
  clear hb2 HS1
  have p0 := rD HS2
  have htz : t.text.size = m := by rw [htx, ByteArray.size_extract]; omega
  have HTZ := hide htz
  have Hone := hide hone
  clear hone htz htx
  go_wp2_with (refine stopAt 12 ?_)
  have lv3 := lV HS2
  refine namedStop fun W3 hW3 => ?_
  have HS3 := onS hW3 HS2.out.va
  have HNbz3 := hide (Bz.onto hW3 (HNbz2.out.var (g := w2.heap.size) (by simp) _))
  clear HNbz2
  clear hW3 HS2
  clear p0
  have p0 := rD HS3
  by_cases hm0 : m = 0
  ·
   have he := textEmpty (HTZ.out.trans hm0)
   have hne := toList_no (s := t.text) (by rw [HTZ.out]; omega)
   go_wp2_with fail
   refine namedPost fun W4 hW4 => ?_
   have HS4 := onS hW4 ((HS3.out.st 0 rfl 5 _).st6 1 rfl _ _ _ _ _ _)
   have HNbz4 := hide (Bz.onto hW4 ((HNbz3.out.st (by simp) _ _).st6 (by simp) _ _ _ _ _ _))
   clear HNbz3
   clear hW4 HS3
   clear p0
   exact ended_L rfl rfl (HS4.out.get 1 rfl) (lex_err HNbz4.out hw1 HT.out HO.out hl (by omega) HOK.out hn (by decide))
  have he := isEmpty_no (s := t.text) (by rw [HTZ.out]; omega)
  have hne := toList_ne (s := t.text) (by rw [HTZ.out]; omega)
  by_cases hn00 : n = 0
  ·
   subst hn00
   by_cases h7 : t.kind = 7
   ·
    have ek7 : (t.kind == 7) = true := by simpa using h7
    clear h7
    go_wp2_with fail
    refine named fun W5 hW5 => ?_
    have HS5 := onS hW5 (HS3.out.st 0 rfl 4 _)
    have HNbz5 := hide (Bz.onto hW5 (HNbz3.out.st (by simp) _ _))
    clear HNbz3
    clear hW5 HS3
    clear p0
    obtain ⟨p6, hpp6⟩ : ∃ p6, p + (t.text).size = p6 := ⟨_, rfl⟩
    obtain ⟨m6, hm6⟩ : ∃ m6, l.length + 1 = m6 := ⟨_, rfl⟩
    have HP6 := hide hpp6
    have HM6 := hide hm6
    clear hpp6 hm6
    refine (put_b (B := w.heap.size) (t := ⟨t.kind, t.text⟩) (HT.out.below HNbz5.out.1) HS5.out.below.size (by omega) (by omega) (by have h1 := HTZ.out; have h2 := HSZ.out; simp only; omega) ⟨_, _, _, rfl⟩ HP6.out HM6.out).mono ?_
    rintro e w6 ⟨⟨ta6, tc6, rfl, hT6⟩, hk6⟩
    have HNbz6 := hide (show Bz w w1 w6 [w1.heap.size, w1.heap.size + 1] _ () from HNbz5.out.put hw1 hk6 hT6 (HO.out.below HNbz5.out.1) (HS5.out.take 2) (by simp) (by simp))
    have HS6 := hide (show St w w6 [(w1.heap.size, 81, #[.string s, .int .i64 p, .slice a l.length c, .slice oa 0 oc, .bool true, .int .i64 0]), (w1.heap.size + 1, 81, #[.string ⟨#[]⟩, .int .i64 0, .slice none 0 0, .slice none 0 0, .bool false, .int .i64 0])] from St.kt (HS5.out.take 2) hk6 (by simp))
    clear hT6 hk6 HNbz5 HS5
    have p0 := rD HS6
    go_wp2_with fail
    refine namedPost fun W7 hW7 => ?_
    have HS7 := onS hW7 (HS6.out.st6 1 rfl _ _ _ _ _ _)
    have HNbz7 := hide (Bz.onto hW7 (HNbz6.out.st6 (by simp) _ _ _ _ _ _))
    clear HNbz6
    clear hW7 HS6
    clear p0
    exact ended_L rfl rfl (HS7.out.get 1 rfl) (lex_end (t := ⟨t.kind, t.text⟩) HNbz7.out hl HOK.out ⟨by show -9223372036854775808 ≤ (t.kind : Int) ∧ (t.kind : Int) ≤ _; omega, by show t.text.size ≤ 65536; have h1 := HTZ.out; have h2 := HSZ.out; omega, fun _ => by show 1 ≤ t.text.size; have h1 := HTZ.out; omega⟩ (by have h1 := HTZ.out; have h2 := HSZ.out; simp only; omega) HP6.out (by have h1 := HTZ.out; have h2 := HSZ.out; simp only; omega) (by omega))
   have ek7 : (t.kind == 7) = false := by simpa using h7
   clear h7
   go_wp2_with fail
   obtain ⟨p8, hpp8⟩ : ∃ p8, p + (t.text).size = p8 := ⟨_, rfl⟩
   obtain ⟨m8, hm8⟩ : ∃ m8, l.length + 1 = m8 := ⟨_, rfl⟩
   have HP8 := hide hpp8
   have HM8 := hide hm8
   clear hpp8 hm8
   refine (put_b (B := w.heap.size) (t := ⟨t.kind, t.text⟩) (HT.out.below HNbz3.out.1) HS3.out.below.size (by omega) (by omega) (by have h1 := HTZ.out; have h2 := HSZ.out; simp only; omega) ⟨_, _, _, rfl⟩ HP8.out HM8.out).mono ?_
   rintro e w8 ⟨⟨ta8, tc8, rfl, hT8⟩, hk8⟩
   have HNbz8 := hide (show Bz w w1 w8 [w1.heap.size, w1.heap.size + 1] _ () from HNbz3.out.put hw1 hk8 hT8 (HO.out.below HNbz3.out.1) (HS3.out.take 2) (by simp) (by simp))
   have HS8 := hide (show St w w8 [(w1.heap.size, 81, #[.string s, .int .i64 p, .slice a l.length c, .slice oa 0 oc, .bool false, .int .i64 0]), (w1.heap.size + 1, 81, #[.string ⟨#[]⟩, .int .i64 0, .slice none 0 0, .slice none 0 0, .bool false, .int .i64 0])] from St.kt (HS3.out.take 2) hk8 (by simp))
   clear hT8 hk8 HNbz3 HS3
   clear p0
   have p0 := rD HS8
   go_wp2_with fail
   refine namedPost fun W9 hW9 => ?_
   have HS9 := onS hW9 (HS8.out.st6 1 rfl _ _ _ _ _ _)
   have HNbz9 := hide (Bz.onto hW9 (HNbz8.out.st6 (by simp) _ _ _ _ _ _))
   clear HNbz8
   clear hW9 HS8
   clear p0
   exact ended_L rfl rfl (HS9.out.get 1 rfl) (lex_end (t := ⟨t.kind, t.text⟩) HNbz9.out hl HOK.out ⟨by show -9223372036854775808 ≤ (t.kind : Int) ∧ (t.kind : Int) ≤ _; omega, by show t.text.size ≤ 65536; have h1 := HTZ.out; have h2 := HSZ.out; omega, fun _ => by show 1 ≤ t.text.size; have h1 := HTZ.out; omega⟩ (by have h1 := HTZ.out; have h2 := HSZ.out; simp only; omega) HP8.out (by have h1 := HTZ.out; have h2 := HSZ.out; simp only; omega) (by omega))
  obtain ⟨n1, rfl⟩ : ∃ k, n = k + 1 := ⟨n - 1, by omega⟩
  obtain ⟨og, oc2, z, hv, hog, hog2, hoc, hof, hcap⟩ := HO.out.open_
  cases hv
  have hoc1 := (HNbz3.out.1.cell (p := ⟨og, n1, none⟩) hog2).trans hoc
  have hof1 := (HNbz3.out.1.frozen (p := ⟨og, n1, none⟩) hog2).trans hof
  clear hoc hof
  have hne1 : ¬ og = w1.heap.size := by omega
  have hne2 : ¬ og = w1.heap.size + 1 := by omega
  have hcap1 : (n1 : Int) ≤ (oc : Int) := by omega
  have hcap2 : n1 ≤ oc := by omega
  have hcap3 : ¬ oc = 0 := by omega
  have hcap4 : ¬ 0 = oc := by omega
  clear hcap
  have hnl : (n1 : Int) < (n1 : Int) + 1 := by omega
  have hn0 : (0 : Int) ≤ (n1 : Int) := by omega
  by_cases h7 : t.kind = 7
  ·
   have ek7 : (t.kind == 7) = true := by simpa using h7
   have ek13 : (t.kind == 13) = false := by rw [h7]; rfl
   clear h7
   go_wp2_with fail
   refine named fun W10 hW10 => ?_
   have HS10 := onS hW10 (HS3.out.st 0 rfl 4 _)
   have HNbz10 := hide (Bz.onto hW10 (HNbz3.out.st (by simp) _ _))
   clear HNbz3
   clear hW10 HS3
   clear p0
   obtain ⟨p11, hpp11⟩ : ∃ p11, p + (t.text).size = p11 := ⟨_, rfl⟩
   obtain ⟨m11, hm11⟩ : ∃ m11, l.length + 1 = m11 := ⟨_, rfl⟩
   have HP11 := hide hpp11
   have HM11 := hide hm11
   clear hpp11 hm11
   refine (put_b (B := w.heap.size) (t := ⟨t.kind, t.text⟩) (HT.out.below HNbz10.out.1) HS10.out.below.size (by omega) (by omega) (by have h1 := HTZ.out; have h2 := HSZ.out; simp only; omega) ⟨_, _, _, rfl⟩ HP11.out HM11.out).mono ?_
   rintro e w11 ⟨⟨ta11, tc11, rfl, hT11⟩, hk11⟩
   have HNbz11 := hide (show Bz w w1 w11 [w1.heap.size, w1.heap.size + 1] _ () from HNbz10.out.put hw1 hk11 hT11 (HO.out.below HNbz10.out.1) (HS10.out.take 2) (by simp) (by simp))
   have HS11 := hide (show St w w11 [(w1.heap.size, 81, #[.string s, .int .i64 p, .slice a l.length c, .slice (some ⟨og, 0, none⟩) (n1 + 1) oc, .bool true, .int .i64 0]), (w1.heap.size + 1, 81, #[.string ⟨#[]⟩, .int .i64 0, .slice none 0 0, .slice none 0 0, .bool false, .int .i64 0])] from St.kt (HS10.out.take 2) hk11 (by simp))
   clear hT11 hk11 HNbz10 HS10
   have p0 := rD HS11
   go_wp2_with fail
   refine namedPost fun W12 hW12 => ?_
   have HS12 := onS hW12 (HS11.out.st6 1 rfl _ _ _ _ _ _)
   have HNbz12 := hide (Bz.onto hW12 (HNbz11.out.st6 (by simp) _ _ _ _ _ _))
   clear HNbz11
   clear hW12 HS11
   clear p0
   exact ended_L rfl rfl (HS12.out.get 1 rfl) (lex_end (t := ⟨t.kind, t.text⟩) HNbz12.out hl HOK.out ⟨by show -9223372036854775808 ≤ (t.kind : Int) ∧ (t.kind : Int) ≤ _; omega, by show t.text.size ≤ 65536; have h1 := HTZ.out; have h2 := HSZ.out; omega, fun _ => by show 1 ≤ t.text.size; have h1 := HTZ.out; omega⟩ (by have h1 := HTZ.out; have h2 := HSZ.out; simp only; omega) HP11.out (by have h1 := HTZ.out; have h2 := HSZ.out; simp only; omega) (by omega))
  have ek7 : (t.kind == 7) = false := by simpa using h7
  clear h7
  by_cases h13 : t.kind = 13
  ·
   have ek13 : (t.kind == 13) = true := by simpa using h13
   clear h13
   cases q41 : (t.text.toList == [41])
   case true =>
    have q40 : (t.text.toList == [40]) = false := by rw [beq_iff_eq] at q41; rw [q41]; rfl
    by_cases hz0 : z = 0
    ·
     have ez : (z == 0) = true := by simpa using hz0
     clear hz0
     have HOt := hide (HO.out.below HNbz3.out.1).take
     go_wp2_with (refine stopAt 52 ?_)
     refine namedStop fun W13 hW13 => ?_
     have HS13 := onS hW13 (((HS3.out.st 2 rfl 0 _).st 0 rfl 3 _).st 0 rfl 4 _)
     have HOr13 := hide (ORow.onto hW13 (((HOt.out.setBlk (HS3.out.get 2 rfl) (by decide) _ _).setBlk ((HS3.out.st 2 rfl 0 _).get 0 rfl) (by decide) _ _).setBlk (((HS3.out.st 2 rfl 0 _).st 0 rfl 3 _).get 0 rfl) (by decide) _ _))
     clear HOt
     have HNbz13 := hide (Bz.onto hW13 (((HNbz3.out.st (by simp) _ _).st (by simp) _ _).st (by simp) _ _))
     clear HNbz3
     clear hW13 HS3
     clear p0
     have p0 := rD HS13
     go_wp2_with fail
     obtain ⟨p14, hpp14⟩ : ∃ p14, p + (t.text).size = p14 := ⟨_, rfl⟩
     obtain ⟨m14, hm14⟩ : ∃ m14, l.length + 1 = m14 := ⟨_, rfl⟩
     have HP14 := hide hpp14
     have HM14 := hide hm14
     clear hpp14 hm14
     refine (put_b (B := w.heap.size) (t := ⟨10, t.text⟩) (HT.out.below HNbz13.out.1) HS13.out.below.size (by omega) (by omega) (by have h1 := HTZ.out; have h2 := HSZ.out; simp only; omega) ⟨_, _, _, rfl⟩ HP14.out HM14.out).mono ?_
     rintro e w14 ⟨⟨ta14, tc14, rfl, hT14⟩, hk14⟩
     have HNbz14 := hide (show Bz w w1 w14 [w1.heap.size, w1.heap.size + 1] _ () from HNbz13.out.put hw1 hk14 hT14 HOr13.out (HS13.out.take 2) (by simp) (by simp))
     have HS14 := hide (show St w w14 [(w1.heap.size, 81, #[.string s, .int .i64 p, .slice a l.length c, .slice (some ⟨og, 0, none⟩) n1 oc, .bool true, .int .i64 0]), (w1.heap.size + 1, 81, #[.string ⟨#[]⟩, .int .i64 0, .slice none 0 0, .slice none 0 0, .bool false, .int .i64 0])] from St.kt (HS13.out.take 2) hk14 (by simp))
     clear hT14 hk14 HNbz13 HS13
     clear p0
     have p0 := rD HS14
     go_wp2_with fail
     refine namedPost fun W15 hW15 => ?_
     have HS15 := onS hW15 (HS14.out.st6 1 rfl _ _ _ _ _ _)
     have HNbz15 := hide (Bz.onto hW15 (HNbz14.out.st6 (by simp) _ _ _ _ _ _))
     clear HNbz14
     clear hW15 HS14
     clear p0
     exact ended_L rfl rfl (HS15.out.get 1 rfl) (lex_end (t := ⟨10, t.text⟩) HNbz15.out hl HOK.out ⟨by show -9223372036854775808 ≤ (10 : Int) ∧ (10 : Int) ≤ _; omega, by show t.text.size ≤ 65536; have h1 := HTZ.out; have h2 := HSZ.out; omega, fun _ => by show 1 ≤ t.text.size; have h1 := HTZ.out; omega⟩ (by have h1 := HTZ.out; have h2 := HSZ.out; simp only; omega) HP14.out (by have h1 := HTZ.out; have h2 := HSZ.out; simp only; omega) (by omega))
    have ez : (z == 0) = false := by simpa using hz0
    clear hz0
    go_wp2_with (refine stopAt 73 ?_)
    refine namedStop fun W16 hW16 => ?_
    have HS16 := hide (St.onto hW16 HS3.out)
    have HNbz16 := hide (Bz.onto hW16 HNbz3.out)
    clear HNbz3
    clear hW16 HS3
    clear p0
    have p0 := rD HS16
    obtain ⟨a17, c17, w17, hr17, ho17, hb17⟩ := open_copy (HO.out.below HNbz16.out.1) (by omega)
    obtain ⟨g17, d17, y17, hv17, hg17, hl17, hc17, hf17, -⟩ := ho17.open_
    cases hv17
    have HB17 := hide hb17
    have HO17 := hide ho17
    have HG17 := hide hg17
    have HS17 := hide (HS16.out.call HB17.out)
    have rr0 := rD HS17
    clear ho17 hb17
    go_wp2_with (first | (at_builtin; refine wpList_app rfl _ _ (by rfl) (by rfl) (by rfl) (by rfl) hr17 ?_) | (refine stopAt 76 ?_))
    refine ⟨?_⟩
    clear hr17
    go_wp2_with (refine stopAt 92 ?_)
    refine namedStop fun W17 hW17 => ?_
    have hbb17 : Below W16.heap.size W16 W17 := by rw [hW17]; exact bl_st HB17.out HG17.out _ _
    have HQS17 := hide (HS16.out.call hbb17)
    have HNbz17 := hide (HNbz16.out.call hbb17)
    have HOr17 := hide (ORow.onto hW17 (HO17.out.mono HS16.out.below.size).set)
    clear hW17 hbb17 HS17 HS16 HNbz16 hc17 hf17 rr0 p0
    have p0 := rD HQS17
    go_wp2_with (refine stopAt 93 ?_)
    refine namedStop fun W18 hW18 => ?_
    have HS18 := onS hW18 (HQS17.out.st 0 rfl 3 _)
    have HOr18 := hide (ORow.onto hW18 (HOr17.out.setBlk (HQS17.out.get 0 rfl) (by decide) _ _))
    clear HOr17
    have HNbz18 := hide (Bz.onto hW18 (HNbz17.out.st (by simp) _ _))
    clear HNbz17
    clear hW18 HQS17
    clear p0
    have p0 := rD HS18
    go_wp2_with fail
    obtain ⟨p19, hpp19⟩ : ∃ p19, p + (t.text).size = p19 := ⟨_, rfl⟩
    obtain ⟨m19, hm19⟩ : ∃ m19, l.length + 1 = m19 := ⟨_, rfl⟩
    have HP19 := hide hpp19
    have HM19 := hide hm19
    clear hpp19 hm19
    refine (put_b (B := w.heap.size) (t := ⟨t.kind, t.text⟩) (HT.out.below HNbz18.out.1) HS18.out.below.size (by omega) (by omega) (by have h1 := HTZ.out; have h2 := HSZ.out; simp only; omega) ⟨_, _, _, rfl⟩ HP19.out HM19.out).mono ?_
    rintro e w19 ⟨⟨ta19, tc19, rfl, hT19⟩, hk19⟩
    have HNbz19 := hide (show Bz w w1 w19 [w1.heap.size, w1.heap.size + 1] _ () from HNbz18.out.put hw1 hk19 hT19 HOr18.out (HS18.out.take 2) (by simp) (by simp))
    have HS19 := hide (show St w w19 [(w1.heap.size, 81, #[.string s, .int .i64 p, .slice a l.length c, .slice (some ⟨g17, 0, none⟩) (n1 + 1) c17, .bool false, .int .i64 0]), (w1.heap.size + 1, 81, #[.string ⟨#[]⟩, .int .i64 0, .slice none 0 0, .slice none 0 0, .bool false, .int .i64 0])] from St.kt (HS18.out.take 2) hk19 (by simp))
    clear hT19 hk19 HNbz18 HS18
    clear p0
    have p0 := rD HS19
    go_wp2_with fail
    refine namedPost fun W20 hW20 => ?_
    have HS20 := onS hW20 (HS19.out.st6 1 rfl _ _ _ _ _ _)
    have HNbz20 := hide (Bz.onto hW20 (HNbz19.out.st6 (by simp) _ _ _ _ _ _))
    clear HNbz19
    clear hW20 HS19
    clear p0
    exact ended_L rfl rfl (HS20.out.get 1 rfl) (lex_end (t := ⟨t.kind, t.text⟩) HNbz20.out hl HOK.out ⟨by show -9223372036854775808 ≤ (t.kind : Int) ∧ (t.kind : Int) ≤ _; omega, by show t.text.size ≤ 65536; have h1 := HTZ.out; have h2 := HSZ.out; omega, fun _ => by show 1 ≤ t.text.size; have h1 := HTZ.out; omega⟩ (by have h1 := HTZ.out; have h2 := HSZ.out; simp only; omega) HP19.out (by have h1 := HTZ.out; have h2 := HSZ.out; simp only; omega) (by omega))
   cases q40 : (t.text.toList == [40])
   case true =>
    go_wp2_with (refine stopAt 73 ?_)
    refine namedStop fun W21 hW21 => ?_
    have HS21 := hide (St.onto hW21 HS3.out)
    have HNbz21 := hide (Bz.onto hW21 HNbz3.out)
    clear HNbz3
    clear hW21 HS3
    clear p0
    have p0 := rD HS21
    obtain ⟨a22, c22, w22, hr22, ho22, hb22⟩ := open_copy (HO.out.below HNbz21.out.1) (by omega)
    obtain ⟨g22, d22, y22, hv22, hg22, hl22, hc22, hf22, -⟩ := ho22.open_
    cases hv22
    have HB22 := hide hb22
    have HO22 := hide ho22
    have HG22 := hide hg22
    have HS22 := hide (HS21.out.call HB22.out)
    have rr0 := rD HS22
    clear ho22 hb22
    go_wp2_with (first | (at_builtin; refine wpList_app rfl _ _ (by rfl) (by rfl) (by rfl) (by rfl) hr22 ?_) | (refine stopAt 76 ?_))
    refine ⟨?_⟩
    clear hr22
    go_wp2_with (refine stopAt 92 ?_)
    refine namedStop fun W22 hW22 => ?_
    have hbb22 : Below W21.heap.size W21 W22 := by rw [hW22]; exact bl_st HB22.out HG22.out _ _
    have HQS22 := hide (HS21.out.call hbb22)
    have HNbz22 := hide (HNbz21.out.call hbb22)
    have HOr22 := hide (ORow.onto hW22 (HO22.out.mono HS21.out.below.size).set)
    clear hW22 hbb22 HS22 HS21 HNbz21 hc22 hf22 rr0 p0
    have p0 := rD HQS22
    go_wp2_with (refine stopAt 93 ?_)
    refine namedStop fun W23 hW23 => ?_
    have HS23 := onS hW23 (HQS22.out.st 0 rfl 3 _)
    have HOr23 := hide (ORow.onto hW23 (HOr22.out.setBlk (HQS22.out.get 0 rfl) (by decide) _ _))
    clear HOr22
    have HNbz23 := hide (Bz.onto hW23 (HNbz22.out.st (by simp) _ _))
    clear HNbz22
    clear hW23 HQS22
    clear p0
    have p0 := rD HS23
    go_wp2_with fail
    obtain ⟨p24, hpp24⟩ : ∃ p24, p + (t.text).size = p24 := ⟨_, rfl⟩
    obtain ⟨m24, hm24⟩ : ∃ m24, l.length + 1 = m24 := ⟨_, rfl⟩
    have HP24 := hide hpp24
    have HM24 := hide hm24
    clear hpp24 hm24
    refine (put_b (B := w.heap.size) (t := ⟨t.kind, t.text⟩) (HT.out.below HNbz23.out.1) HS23.out.below.size (by omega) (by omega) (by have h1 := HTZ.out; have h2 := HSZ.out; simp only; omega) ⟨_, _, _, rfl⟩ HP24.out HM24.out).mono ?_
    rintro e w24 ⟨⟨ta24, tc24, rfl, hT24⟩, hk24⟩
    have HNbz24 := hide (show Bz w w1 w24 [w1.heap.size, w1.heap.size + 1] _ () from HNbz23.out.put hw1 hk24 hT24 HOr23.out (HS23.out.take 2) (by simp) (by simp))
    have HS24 := hide (show St w w24 [(w1.heap.size, 81, #[.string s, .int .i64 p, .slice a l.length c, .slice (some ⟨g22, 0, none⟩) (n1 + 1) c22, .bool false, .int .i64 0]), (w1.heap.size + 1, 81, #[.string ⟨#[]⟩, .int .i64 0, .slice none 0 0, .slice none 0 0, .bool false, .int .i64 0])] from St.kt (HS23.out.take 2) hk24 (by simp))
    clear hT24 hk24 HNbz23 HS23
    clear p0
    have p0 := rD HS24
    go_wp2_with fail
    refine namedPost fun W25 hW25 => ?_
    have HS25 := onS hW25 (HS24.out.st6 1 rfl _ _ _ _ _ _)
    have HNbz25 := hide (Bz.onto hW25 (HNbz24.out.st6 (by simp) _ _ _ _ _ _))
    clear HNbz24
    clear hW25 HS24
    clear p0
    exact ended_L rfl rfl (HS25.out.get 1 rfl) (lex_end (t := ⟨t.kind, t.text⟩) HNbz25.out hl HOK.out ⟨by show -9223372036854775808 ≤ (t.kind : Int) ∧ (t.kind : Int) ≤ _; omega, by show t.text.size ≤ 65536; have h1 := HTZ.out; have h2 := HSZ.out; omega, fun _ => by show 1 ≤ t.text.size; have h1 := HTZ.out; omega⟩ (by have h1 := HTZ.out; have h2 := HSZ.out; simp only; omega) HP24.out (by have h1 := HTZ.out; have h2 := HSZ.out; simp only; omega) (by omega))
   go_wp2_with fail
   obtain ⟨p26, hpp26⟩ : ∃ p26, p + (t.text).size = p26 := ⟨_, rfl⟩
   obtain ⟨m26, hm26⟩ : ∃ m26, l.length + 1 = m26 := ⟨_, rfl⟩
   have HP26 := hide hpp26
   have HM26 := hide hm26
   clear hpp26 hm26
   refine (put_b (B := w.heap.size) (t := ⟨t.kind, t.text⟩) (HT.out.below HNbz3.out.1) HS3.out.below.size (by omega) (by omega) (by have h1 := HTZ.out; have h2 := HSZ.out; simp only; omega) ⟨_, _, _, rfl⟩ HP26.out HM26.out).mono ?_
   rintro e w26 ⟨⟨ta26, tc26, rfl, hT26⟩, hk26⟩
   have HNbz26 := hide (show Bz w w1 w26 [w1.heap.size, w1.heap.size + 1] _ () from HNbz3.out.put hw1 hk26 hT26 (HO.out.below HNbz3.out.1) (HS3.out.take 2) (by simp) (by simp))
   have HS26 := hide (show St w w26 [(w1.heap.size, 81, #[.string s, .int .i64 p, .slice a l.length c, .slice (some ⟨og, 0, none⟩) (n1 + 1) oc, .bool false, .int .i64 0]), (w1.heap.size + 1, 81, #[.string ⟨#[]⟩, .int .i64 0, .slice none 0 0, .slice none 0 0, .bool false, .int .i64 0])] from St.kt (HS3.out.take 2) hk26 (by simp))
   clear hT26 hk26 HNbz3 HS3
   clear p0
   have p0 := rD HS26
   go_wp2_with fail
   refine namedPost fun W27 hW27 => ?_
   have HS27 := onS hW27 (HS26.out.st6 1 rfl _ _ _ _ _ _)
   have HNbz27 := hide (Bz.onto hW27 (HNbz26.out.st6 (by simp) _ _ _ _ _ _))
   clear HNbz26
   clear hW27 HS26
   clear p0
   exact ended_L rfl rfl (HS27.out.get 1 rfl) (lex_end (t := ⟨t.kind, t.text⟩) HNbz27.out hl HOK.out ⟨by show -9223372036854775808 ≤ (t.kind : Int) ∧ (t.kind : Int) ≤ _; omega, by show t.text.size ≤ 65536; have h1 := HTZ.out; have h2 := HSZ.out; omega, fun _ => by show 1 ≤ t.text.size; have h1 := HTZ.out; omega⟩ (by have h1 := HTZ.out; have h2 := HSZ.out; simp only; omega) HP26.out (by have h1 := HTZ.out; have h2 := HSZ.out; simp only; omega) (by omega))
  have ek13 : (t.kind == 13) = false := by simpa using h13
  clear h13
  go_wp2_with fail
  obtain ⟨p28, hpp28⟩ : ∃ p28, p + (t.text).size = p28 := ⟨_, rfl⟩
  obtain ⟨m28, hm28⟩ : ∃ m28, l.length + 1 = m28 := ⟨_, rfl⟩
  have HP28 := hide hpp28
  have HM28 := hide hm28
  clear hpp28 hm28
  refine (put_b (B := w.heap.size) (t := ⟨t.kind, t.text⟩) (HT.out.below HNbz3.out.1) HS3.out.below.size (by omega) (by omega) (by have h1 := HTZ.out; have h2 := HSZ.out; simp only; omega) ⟨_, _, _, rfl⟩ HP28.out HM28.out).mono ?_
  rintro e w28 ⟨⟨ta28, tc28, rfl, hT28⟩, hk28⟩
  have HNbz28 := hide (show Bz w w1 w28 [w1.heap.size, w1.heap.size + 1] _ () from HNbz3.out.put hw1 hk28 hT28 (HO.out.below HNbz3.out.1) (HS3.out.take 2) (by simp) (by simp))
  have HS28 := hide (show St w w28 [(w1.heap.size, 81, #[.string s, .int .i64 p, .slice a l.length c, .slice (some ⟨og, 0, none⟩) (n1 + 1) oc, .bool false, .int .i64 0]), (w1.heap.size + 1, 81, #[.string ⟨#[]⟩, .int .i64 0, .slice none 0 0, .slice none 0 0, .bool false, .int .i64 0])] from St.kt (HS3.out.take 2) hk28 (by simp))
  clear hT28 hk28 HNbz3 HS3
  clear p0
  have p0 := rD HS28
  go_wp2_with fail
  refine namedPost fun W29 hW29 => ?_
  have HS29 := onS hW29 (HS28.out.st6 1 rfl _ _ _ _ _ _)
  have HNbz29 := hide (Bz.onto hW29 (HNbz28.out.st6 (by simp) _ _ _ _ _ _))
  clear HNbz28
  clear hW29 HS28
  clear p0
  exact ended_L rfl rfl (HS29.out.get 1 rfl) (lex_end (t := ⟨t.kind, t.text⟩) HNbz29.out hl HOK.out ⟨by show -9223372036854775808 ≤ (t.kind : Int) ∧ (t.kind : Int) ≤ _; omega, by show t.text.size ≤ 65536; have h1 := HTZ.out; have h2 := HSZ.out; omega, fun _ => by show 1 ≤ t.text.size; have h1 := HTZ.out; omega⟩ (by have h1 := HTZ.out; have h2 := HSZ.out; simp only; omega) HP28.out (by have h1 := HTZ.out; have h2 := HSZ.out; simp only; omega) (by omega))
end Go.Proofs.YtacgmmpdichlmaaGreat
