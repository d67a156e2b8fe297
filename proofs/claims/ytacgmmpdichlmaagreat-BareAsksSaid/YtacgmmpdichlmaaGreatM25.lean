/-
  The reference's parser where brackets stand around a number: exactly. Its condition: the parser's items lie in memory.
-/
import Derived.Test.YtacgmmpdichlmaaGreatM02
namespace Go.Proofs.YtacgmmpdichlmaaGreat
open Go.RowKit
attribute [local go_sem ↓] Go.wp_at_zero Go.wp_at_succ

/-- A place and a node, exactly. -/
def PE (l : List Tk) (a : Option Addr) (cap : Nat) (w : World) (j : Nat) (d : Nd) (e : Ending) (w' : World) : Prop :=
  (∃ (k : Int) (s : ByteArray) (y : Option Addr) (m c : Nat), e = .returned (.tuple #[.agg #[.slice a l.length cap, .int .i64 j, .bool false], .agg #[.int .i64 k, .string s, .slice y m c]]) ∧
    IsNd w' (New w.heap.size w') d (.agg #[.int .i64 k, .string s, .slice y m c])) ∧ Below w.heap.size w w'
theorem toL_eq (s : ByteArray) : s.toList = s.data.toList := Lib.toList_data s
theorem opB_no {t : Tk} {s : ByteArray} (h : t.kind = 13 → t.text.data.toList ≠ s.data.toList) : opB t s = false := by
  unfold opB
  rw [toL_eq, toL_eq]
  by_cases hk : t.kind = 13
  · simp [hk]
    exact fun e => h hk (by rw [e])
  · simp [hk]
theorem wordB_no {t : Tk} {s : ByteArray} (h : t.kind ≠ 3) : wordB t s = false := by
  unfold wordB
  simp [h]
/-- What begins a number, or a bracket. -/
structure Fst (t : Tk) : Prop where
  k : t.kind = 6 ∨ t.kind = 13
  x : t.kind = 13 → t.text = ⟨#[40]⟩
/-- What ends one: a bracket, or nothing. -/
structure Lst (t : Tk) : Prop where
  k : t.kind = 0 ∨ t.kind = 13
  x : t.kind = 13 → t.text = ⟨#[41]⟩
theorem Fst.op {t : Tk} (h : Fst t) (s : ByteArray) (hs : s ≠ ⟨#[40]⟩) : opB t s = false := opB_no fun hk e => hs (by rw [h.x hk] at e; exact (ByteArray.ext (Array.toList_inj.1 e)).symm)
theorem Fst.word {t : Tk} (h : Fst t) (s : ByteArray) : wordB t s = false := wordB_no (by rcases h.k with h | h <;> rw [h] <;> decide)
theorem Lst.op {t : Tk} (h : Lst t) (s : ByteArray) (hs : s ≠ ⟨#[41]⟩) : opB t s = false := opB_no fun hk e => hs (by rw [h.x hk] at e; exact (ByteArray.ext (Array.toList_inj.1 e)).symm)
theorem Lst.word {t : Tk} (h : Lst t) (s : ByteArray) : wordB t s = false := wordB_no (by rcases h.k with h | h <;> rw [h] <;> decide)
theorem opB_yes {t : Tk} {s : ByteArray} (hk : t.kind = 13) (hs : t.text = s) : opB t s = true := by
  unfold opB
  rw [hs, hk]
  simp
theorem next_ex {x : Value} {i j : Nat} {w : World} (h1 : ∃ a n c, x = .slice a n c) (hi : i ≤ 65536) (hj : i + 1 = j) :
    Calls Tryz.prog 87 #[.agg #[x, .int .i64 i, .bool false]] w fun e w' => e = .returned (.agg #[x, .int .i64 j, .bool false]) ∧ Below w.heap.size w w' := by
  subst hj
  exact (next_any x i false w h1 (by omega)).mono fun _ _ h => ⟨h.1, h.2⟩
theorem need_ex {l : List Tk} {a : Option Addr} {cap i j : Nat} {w : World} {s : ByteArray} (hi : Its w a l) (hat : i ≤ 65536) (ho : opB (tokAt l i false) s = true) (hj : i + 1 = j) :
    Calls Tryz.prog 89 #[.agg #[.slice a l.length cap, .int .i64 i, .bool false], .string s] w fun e w' => e = .returned (.agg #[.slice a l.length cap, .int .i64 j, .bool false]) ∧ Below w.heap.size w w' := by
  subst hj
  exact (need_op (cap := cap) hi hat ho).mono fun _ _ h => ⟨h.1, h.2⟩

theorem leaf_num {l : List Tk} {a : Option Addr} {cap i : Nat} {w : World} (hi : Its w a l) (hx : (tokAt l i false).kind = 6) :
    Calls Tryz.prog 115 #[.agg #[.slice a l.length cap, .int .i64 i, .bool false]] w fun e w' => e = .returned (.tuple #[.agg #[.int .i64 5, .string (tokAt l i false).text, .slice none 0 0], .bool true]) ∧ Below w.heap.size w w' := by
  have hok := tokAt_ok hi.2.2 i false
  obtain ⟨t, ht⟩ : ∃ t, t = tokAt l i false := ⟨_, rfl⟩
  have HT := hide ht
  rw [← ht] at hok hx
  rw [← ht]
  clear ht
  obtain ⟨-, hz, hone⟩ := hok
  clear hone
  have e4 : (t.kind == 4) = false := by rw [hx]; rfl
  have e5 : (t.kind == 5) = false := by rw [hx]; rfl
  have e6 : (t.kind == 6) = true := by rw [hx]; rfl
  clear hx
  go_enter Tryz.func115, Tryz.ntmps115
  go_wp2_with fail
  refine named fun W1 hW1 => ?_
  have HS1 := onS hW1 (St.nil w).va.va
  clear hW1
  refine (tok_any (hi.below HS1.out.below)).mono ?_
  rintro e w2 ⟨rfl, hb2⟩
  rw [← HT.out]
  have HS2 := hide (HS1.out.call hb2)
  clear hb2 HS1
  have p0 := rD HS2
  go_wp2_with fail
  have lv3 := lV HS2
  refine namedPost fun W3 hW3 => ?_
  have HS3 := onS hW3 (HS2.out.st3 1 rfl _ _ _).va
  clear hW3 HS2
  clear p0
  exact ended_nb rfl rfl rfl (HS3.out.get 1 rfl) ⟨rfl, HS3.out.below⟩
theorem leaf_opn {l : List Tk} {a : Option Addr} {cap i : Nat} {w : World} (hi : Its w a l) (hx : Fst (tokAt l i false)) (h6 : (tokAt l i false).kind ≠ 6) :
    Calls Tryz.prog 115 #[.agg #[.slice a l.length cap, .int .i64 i, .bool false]] w fun e w' => e = .returned (.tuple #[.agg #[.int .i64 0, .string ⟨#[]⟩, .slice none 0 0], .bool false]) ∧ Below w.heap.size w w' := by
  have hok := tokAt_ok hi.2.2 i false
  obtain ⟨t, ht⟩ : ∃ t, t = tokAt l i false := ⟨_, rfl⟩
  have HT := hide ht
  rw [← ht] at hok hx h6
  clear ht
  obtain ⟨-, hz, hone⟩ := hok
  clear hone
  have hk : t.kind = 13 := hx.k.resolve_left h6
  have HO := hide (hx.op ⟨#[46, 46]⟩ (by decide))
  have e4 : (t.kind == 4) = false := by rw [hk]; rfl
  have e5 : (t.kind == 5) = false := by rw [hk]; rfl
  have e6 : (t.kind == 6) = false := by rw [hk]; rfl
  clear hx h6 hk
  go_enter Tryz.func115, Tryz.ntmps115
  go_wp2_with fail
  refine named fun W1 hW1 => ?_
  have HS1 := onS hW1 (St.nil w).va.va
  clear hW1
  refine (tok_any (hi.below HS1.out.below)).mono ?_
  rintro e w2 ⟨rfl, hb2⟩
  rw [← HT.out]
  have HS2 := hide (HS1.out.call hb2)
  clear hb2 HS1
  have p0 := rD HS2
  go_wp2_with fail
  have lv3 := lV HS2
  refine named fun W3 hW3 => ?_
  have HS3 := onS hW3 HS2.out.va
  clear hW3 HS2
  clear p0
  refine (op_any ⟨#[46, 46]⟩ (hi.below HS3.out.below)).mono ?_
  rintro e w4 ⟨rfl, hb4⟩
  rw [← HT.out, HO.out]
  have HS4 := hide (HS3.out.call hb4)
  clear hb4 HS3
  have p0 := rD HS4
  go_wp2_with fail
  refine namedPost fun W5 hW5 => ?_
  have HS5 := onS hW5 (HS4.out.st3 1 rfl _ _ _)
  clear hW5 HS4
  clear p0
  exact ended_nb rfl rfl rfl (HS5.out.get 1 rfl) ⟨rfl, HS5.out.below⟩
set_option maxRecDepth 4000 in
set_option maxHeartbeats 4000000 in
theorem term_num {l : List Tk} {a : Option Addr} {cap : Nat} {i j : Nat} {w : World} (hi : Its w a l) (hlt : i < l.length) (hj : i + 1 = j) (hx : (tokAt l i false).kind = 6) : Calls Tryz.prog 112 #[.agg #[.slice a l.length cap, .int .i64 i, .bool false]] w (PE l a cap w j (.mk 5 (tokAt l i false).text .nil)) := by
  have hlen := hi.2.1
  have hz := (tokAt_ok hi.2.2 i false).2.1
  obtain ⟨s, hs⟩ : ∃ s, (tokAt l i false).text = s := ⟨_, rfl⟩
  have HS0 := hide hs
  have HX := hide hx
  rw [hs] at hz ⊢
  clear hs hx
  go_enter Tryz.func112, Tryz.ntmps112
  go_wp2_with fail
  refine named fun W1 hW1 => ?_
  have HS1 := onS hW1 (St.nil w).va.va.va
  clear hW1
  refine (leaf_num (hi.below HS1.out.below) HX.out).mono ?_
  rintro e w2 ⟨rfl, hb2⟩
  rw [HS0.out]
  have HS2 := hide (HS1.out.call hb2)
  clear hb2 HS1
  have p0 := rD HS2
  go_wp2_with fail
  have lv3 := lV HS2
  refine namedWp fun W3 hW3 => ?_
  have HS3 := onS hW3 HS2.out.va
  clear hW3 HS2
  clear p0
  have HNn4 := hide (show Nx w W3 [w.heap.size, w.heap.size + 1, w.heap.size + 1 + 1, w2.heap.size] (Nd.mk 5 s .nil) (.agg #[.int .i64 5, .string s, .slice none 0 0]) from Nx.leaf (by omega) (by simp only [maxLen]; omega))
  refine namedWp fun W5 hW5 => ?_
  have HS5 := hide (St.onto hW5 HS3.out)
  have HNn5 := hide (Nx.onto hW5 HNn4.out)
  clear HNn4
  clear hW5 HS3
  refine rgn HS5.out [0, 3] fun W6 hW6 => ?_
  have HS6 := hide (St.onto hW6 HS5.out.dr)
  have HNn6 := hide (Nx.onto hW6 HNn5.out.dr)
  clear HNn5
  clear hW6 HS5
  refine tK 0 (kS HS6.out [0, 3]) ?_
  refine tK 2 (kS HS6.out [0, 3]) ?_
  refine rY 1 fun K hK => ?_
  go_simp
  refine (next_ex ⟨_, _, _, rfl⟩ (by omega) hj).mono ?_
  rintro e w7 ⟨rfl, hb7⟩
  have HS7 := hide (HS6.out.call hb7)
  have HNn7 := hide (HNn6.out.call hb7)
  clear HNn6
  clear hb7 HS6
  go_simp
  refine onK hK (kS HS7.out [0, 3]) ?_
  clear hK K
  refine rY 3 fun K hK => ?_
  have p1 := rG HS7 1
  go_simp
  refine onW hK (kS (HS7.out.st3 1 rfl _ _ _) [0, 3]) fun W8 hW8 => ?_
  clear hK K
  have HS8 := onS hW8 (HS7.out.st3 1 rfl _ _ _)
  have HNn8 := hide (Nx.onto hW8 (HNn7.out.st3 (by simp) _ _ _))
  clear HNn7
  clear hW8 HS7
  clear p1
  refine rY 4 fun K hK => ?_
  have p2 := rG HS8 2
  go_simp
  refine onW hK (kS (HS8.out.st3 2 rfl _ _ _) [0, 3]) fun W9 hW9 => ?_
  clear hK K
  have HS9 := onS hW9 (HS8.out.st3 2 rfl _ _ _)
  have HNn9 := hide (Nx.onto hW9 (HNn8.out.st3 (by simp) _ _ _))
  clear HNn8
  clear hW9 HS8
  clear p2
  refine wpAnyH_done (by kernel_rfl) ?_ _
  go_wp2_with fail
  refine namedPost fun W10 hW10 => ?_
  have HS10 := hide (St.onto hW10 HS9.out)
  have HNn10 := hide (Nx.onto hW10 HNn9.out)
  clear HNn9
  clear hW10 HS9
  exact ended_pn rfl rfl rfl (HS10.out.get 1 rfl) (HS10.out.get 2 rfl) ⟨⟨_, _, _, _, _, rfl, HNn10.out.out⟩, HS10.out.below⟩
set_option maxRecDepth 4000 in
set_option maxHeartbeats 4000000 in
theorem bracket_ex {l : List Tk} {a : Option Addr} {cap : Nat} {i j1 j2 j3 : Nat} {d : Nd} {w : World} (hi : Its w a l) (hlt : i < l.length) (hj : i + 1 = j1) (hx : opB (tokAt l i false) ⟨#[40]⟩ = true) (hp : ∀ ⦃w : World⦄, Its w a l → Calls Tryz.prog 72 #[.agg #[.slice a l.length cap, .int .i64 j1, .bool false]] w (PE l a cap w j2 d)) (h2 : j2 < l.length) (hy : opB (tokAt l j2 false) ⟨#[41]⟩ = true) (hj3 : j2 + 1 = j3) : Calls Tryz.prog 116 #[.agg #[.slice a l.length cap, .int .i64 i, .bool false]] w (PE l a cap w j3 (Nd.of 12 ⟨#[]⟩ [d])) := by
  have hlen := hi.2.1
  have HX := hide hx
  have HY := hide hy
  have HP := hide hp
  clear hx hy hp
  go_enter Tryz.func116, Tryz.ntmps116
  go_wp2_with fail
  refine named fun W1 hW1 => ?_
  have HS1 := onS hW1 (St.nil w).va.va.va
  clear hW1
  refine (op_any ⟨#[40]⟩ (hi.below HS1.out.below)).mono ?_
  rintro e w2 ⟨rfl, hb2⟩
  rw [show opB (tokAt l i false) ⟨#[40]⟩ = true from HX.out]
  have HS2 := hide (HS1.out.call hb2)
  clear hb2 HS1
  have p0 := rD HS2
  go_wp2_with fail
  refine (next_ex ⟨_, _, _, rfl⟩ (by omega) hj).mono ?_
  rintro e w3 ⟨rfl, hb3⟩
  have HS3 := hide (HS2.out.call hb3)
  clear hb3 HS2
  clear p0
  have p0 := rD HS3
  go_wp2_with fail
  refine (HP.out (hi.below HS3.out.below)).mono ?_
  rintro e w4 ⟨⟨k4, s4, y4, m4, c4, rfl, hn4⟩, hb4⟩
  have HS4 := hide (HS3.out.call hb4)
  have HNn4 := hide (show Nx w w4 [w.heap.size, w.heap.size + 1, w.heap.size + 1 + 1] _ _ from Nx.made hn4 HS3.out)
  clear hn4 hb4 HS3
  clear p0
  have p0 := rD HS4
  go_wp2_with fail
  have lv5 := lV HS4
  refine namedWp fun W5 hW5 => ?_
  have HS5 := onS hW5 HS4.out.va.va
  have HNn5 := hide (Nx.onto hW5 ((HNn4.out.var (g := w4.heap.size) (by simp) _).var (g := w4.heap.size + 1) (by simp) _))
  clear HNn4
  clear hW5 HS4
  clear p0
  refine rgn HS5.out [3, 4] fun W6 hW6 => ?_
  have HS6 := hide (St.onto hW6 HS5.out.dr)
  have HNn6 := hide (Nx.onto hW6 HNn5.out.dr)
  clear HNn5
  clear hW6 HS5
  refine tK 0 (kS HS6.out [3, 4]) ?_
  refine tK 2 (kS HS6.out [3, 4]) ?_
  refine rY2 1 3 (fun K hK => ?_) (fun K hK => ?_)
  ·
   go_simp
   refine (need_ex (hi.below HS6.out.below) (by omega) HY.out hj3).mono ?_
   rintro e w7 ⟨rfl, hb7⟩
   have HS7 := hide (HS6.out.call hb7)
   have HNn7 := hide (HNn6.out.call hb7)
   clear HNn6
   clear hb7 HS6
   have p0 := rD HS7
   go_simp
   refine onK hK (kS HS7.out [3, 4]) ?_
   clear hK K
   refine rY2 3 5 (fun K hK => ?_) (fun K hK => ?_)
   ·
    go_simp
    refine onW hK (kS (HS7.out.al _) [3, 4]) fun W8 hW8 => ?_
    clear hK K
    have HS8 := hide (St.onto hW8 (HS7.out.al _))
    have HNn8 := hide (Nx.onto hW8 (HNn7.out.al _))
    have HNres8 := hide (show Nx w W8 [w.heap.size, w.heap.size + 1, w.heap.size + 1 + 1, w4.heap.size, w4.heap.size + 1] (Nd.of 12 ⟨#[]⟩ [d]) (.agg #[.int .i64 12, .string ⟨#[]⟩, .slice (some ⟨w7.heap.size, 0, none⟩) 1 1]) from hW8 ▸ (Sx.join (Rx.lit (Rx.cons HNn7.out (Rx.nil)) HS7.out rfl (by simp [maxLen])) (by omega) (by decide)))
    clear HNn7
    clear hW8 HS7
    clear p0
    refine tK 4 (kS HS8.out [3, 4]) ?_
    refine rY 5 fun K hK => ?_
    have p1 := rG HS8 1
    go_simp
    refine onW hK (kS (HS8.out.st3 1 rfl _ _ _) [3, 4]) fun W9 hW9 => ?_
    clear hK K
    have HS9 := onS hW9 (HS8.out.st3 1 rfl _ _ _)
    have HNn9 := hide (Nx.onto hW9 (HNn8.out.st3 (by simp) _ _ _))
    have HNres9 := hide (Nx.onto hW9 (HNres8.out.st3 (by simp) _ _ _))
    clear HNn8 HNres8
    clear hW9 HS8
    clear p1
    refine rY 6 fun K hK => ?_
    have p2 := rG HS9 2
    go_simp
    refine onW hK (kS (HS9.out.st3 2 rfl _ _ _) [3, 4]) fun W10 hW10 => ?_
    clear hK K
    have HS10 := onS hW10 (HS9.out.st3 2 rfl _ _ _)
    have HNn10 := hide (Nx.onto hW10 (HNn9.out.st3 (by simp) _ _ _))
    have HNres10 := hide (Nx.onto hW10 (HNres9.out.st3 (by simp) _ _ _))
    clear HNn9 HNres9
    clear hW10 HS9
    clear p2
    refine wpAnyH_done (by kernel_rfl) ?_ _
    go_wp2_with fail
    refine namedPost fun W11 hW11 => ?_
    have HS11 := hide (St.onto hW11 HS10.out)
    have HNn11 := hide (Nx.onto hW11 HNn10.out)
    have HNres11 := hide (Nx.onto hW11 HNres10.out)
    clear HNn10 HNres10
    clear hW11 HS10
    exact ended_pn rfl rfl rfl (HS11.out.get 1 rfl) (HS11.out.get 2 rfl) ⟨⟨_, _, _, _, _, rfl, HNres11.out.out⟩, HS11.out.below⟩
   clear p0
   have p1 := rG HS7 1
   go_simp
   refine onW hK (kS (HS7.out.st3 1 rfl _ _ _) [3, 4]) fun W12 hW12 => ?_
   clear hK K
   have HS12 := onS hW12 (HS7.out.st3 1 rfl _ _ _)
   have HNn12 := hide (Nx.onto hW12 (HNn7.out.st3 (by simp) _ _ _))
   clear HNn7
   clear hW12 HS7
   clear p1
   refine rY 3 fun K hK => ?_
   go_simp
   refine onW hK (kS (HS12.out.al _) [3, 4]) fun W13 hW13 => ?_
   clear hK K
   have HS13 := hide (St.onto hW13 (HS12.out.al _))
   have HNn13 := hide (Nx.onto hW13 (HNn12.out.al _))
   have HNres13 := hide (show Nx w W13 [w.heap.size, w.heap.size + 1, w.heap.size + 1 + 1, w4.heap.size, w4.heap.size + 1] (Nd.of 12 ⟨#[]⟩ [d]) (.agg #[.int .i64 12, .string ⟨#[]⟩, .slice (some ⟨W12.heap.size, 0, none⟩) 1 1]) from hW13 ▸ (Sx.join (Rx.lit (Rx.cons HNn12.out (Rx.nil)) HS12.out rfl (by simp [maxLen])) (by omega) (by decide)))
   clear HNn12
   clear hW13 HS12
   refine tK 4 (kS HS13.out [3, 4]) ?_
   refine rY 6 fun K hK => ?_
   have p2 := rG HS13 2
   go_simp
   refine onW hK (kS (HS13.out.st3 2 rfl _ _ _) [3, 4]) fun W14 hW14 => ?_
   clear hK K
   have HS14 := onS hW14 (HS13.out.st3 2 rfl _ _ _)
   have HNn14 := hide (Nx.onto hW14 (HNn13.out.st3 (by simp) _ _ _))
   have HNres14 := hide (Nx.onto hW14 (HNres13.out.st3 (by simp) _ _ _))
   clear HNn13 HNres13
   clear hW14 HS13
   clear p2
   refine wpAnyH_done (by kernel_rfl) ?_ _
   go_wp2_with fail
   refine namedPost fun W15 hW15 => ?_
   have HS15 := hide (St.onto hW15 HS14.out)
   have HNn15 := hide (Nx.onto hW15 HNn14.out)
   have HNres15 := hide (Nx.onto hW15 HNres14.out)
   clear HNn14 HNres14
   clear hW15 HS14
   exact ended_pn rfl rfl rfl (HS15.out.get 1 rfl) (HS15.out.get 2 rfl) ⟨⟨_, _, _, _, _, rfl, HNres15.out.out⟩, HS15.out.below⟩
  go_simp
  refine onW hK (kS (HS6.out.al _) [3, 4]) fun W16 hW16 => ?_
  clear hK K
  have HS16 := hide (St.onto hW16 (HS6.out.al _))
  have HNn16 := hide (Nx.onto hW16 (HNn6.out.al _))
  have HNres16 := hide (show Nx w W16 [w.heap.size, w.heap.size + 1, w.heap.size + 1 + 1, w4.heap.size, w4.heap.size + 1] (Nd.of 12 ⟨#[]⟩ [d]) (.agg #[.int .i64 12, .string ⟨#[]⟩, .slice (some ⟨W6.heap.size, 0, none⟩) 1 1]) from hW16 ▸ (Sx.join (Rx.lit (Rx.cons HNn6.out (Rx.nil)) HS6.out rfl (by simp [maxLen])) (by omega) (by decide)))
  clear HNn6
  clear hW16 HS6
  refine tK 4 (kS HS16.out [3, 4]) ?_
  refine rY 1 fun K hK => ?_
  go_simp
  refine (need_ex (hi.below HS16.out.below) (by omega) HY.out hj3).mono ?_
  rintro e w17 ⟨rfl, hb17⟩
  have HS17 := hide (HS16.out.call hb17)
  have HNn17 := hide (HNn16.out.call hb17)
  clear HNn16
  have HNres17 := hide (HNres16.out.call hb17)
  clear HNres16
  clear hb17 HS16
  have p0 := rD HS17
  go_simp
  refine onK hK (kS HS17.out [3, 4]) ?_
  clear hK K
  refine rY 5 fun K hK => ?_
  clear p0
  have p1 := rG HS17 1
  go_simp
  refine onW hK (kS (HS17.out.st3 1 rfl _ _ _) [3, 4]) fun W18 hW18 => ?_
  clear hK K
  have HS18 := onS hW18 (HS17.out.st3 1 rfl _ _ _)
  have HNn18 := hide (Nx.onto hW18 (HNn17.out.st3 (by simp) _ _ _))
  have HNres18 := hide (Nx.onto hW18 (HNres17.out.st3 (by simp) _ _ _))
  clear HNn17 HNres17
  clear hW18 HS17
  clear p1
  refine rY 6 fun K hK => ?_
  have p2 := rG HS18 2
  go_simp
  refine onW hK (kS (HS18.out.st3 2 rfl _ _ _) [3, 4]) fun W19 hW19 => ?_
  clear hK K
  have HS19 := onS hW19 (HS18.out.st3 2 rfl _ _ _)
  have HNn19 := hide (Nx.onto hW19 (HNn18.out.st3 (by simp) _ _ _))
  have HNres19 := hide (Nx.onto hW19 (HNres18.out.st3 (by simp) _ _ _))
  clear HNn18 HNres18
  clear hW19 HS18
  clear p2
  refine wpAnyH_done (by kernel_rfl) ?_ _
  go_wp2_with fail
  refine namedPost fun W20 hW20 => ?_
  have HS20 := hide (St.onto hW20 HS19.out)
  have HNn20 := hide (Nx.onto hW20 HNn19.out)
  have HNres20 := hide (Nx.onto hW20 HNres19.out)
  clear HNn19 HNres19
  clear hW20 HS19
  exact ended_pn rfl rfl rfl (HS20.out.get 1 rfl) (HS20.out.get 2 rfl) ⟨⟨_, _, _, _, _, rfl, HNres20.out.out⟩, HS20.out.below⟩
set_option maxRecDepth 4000 in
set_option maxHeartbeats 4000000 in
theorem term_opn {l : List Tk} {a : Option Addr} {cap : Nat} {i j : Nat} {d : Nd} {w : World} (hi : Its w a l) (_hlt : i < l.length) (hf : Fst (tokAt l i false)) (hx : (tokAt l i false).kind ≠ 6) (hp : ∀ ⦃w : World⦄, Its w a l → Calls Tryz.prog 116 #[.agg #[.slice a l.length cap, .int .i64 i, .bool false]] w (PE l a cap w j d)) : Calls Tryz.prog 112 #[.agg #[.slice a l.length cap, .int .i64 i, .bool false]] w (PE l a cap w j d) := by
  have hlen := hi.2.1
  have HF := hide hf
  have HX := hide hx
  have HK := hide (hf.k.resolve_left hx)
  have HP := hide hp
  clear hf hx hp
  go_enter Tryz.func112, Tryz.ntmps112
  go_wp2_with fail
  refine named fun W1 hW1 => ?_
  have HS1 := onS hW1 (St.nil w).va.va.va
  clear hW1
  refine (leaf_opn (hi.below HS1.out.below) HF.out HX.out).mono ?_
  rintro e w2 ⟨rfl, hb2⟩
  have HS2 := hide (HS1.out.call hb2)
  clear hb2 HS1
  have p0 := rD HS2
  go_wp2_with fail
  have lv3 := lV HS2
  refine named fun W3 hW3 => ?_
  have HS3 := onS hW3 HS2.out.va
  clear hW3 HS2
  clear p0
  obtain ⟨t4, ht4⟩ : ∃ t, tokAt l i false = t := ⟨_, rfl⟩
  have hok4 := tokAt_ok hi.2.2 i false
  rw [ht4] at hok4
  obtain ⟨hkb4, hz4, hone4⟩ := hok4
  have HT4 := hide ht4
  clear ht4
  have Hone4 := hide hone4
  clear hone4
  have hfa4 := fieldT0 t4.kind t4.text
  have hfb4 := fieldT1 t4.kind t4.text
  refine (tok_any (hi.below HS3.out.below)).mono ?_
  rintro e w5 ⟨rfl, hb5⟩
  rw [HT4.out]
  have HS5 := hide (HS3.out.call hb5)
  clear hb5 HS3
  have p0 := rD HS5
  go_wp2_with fail
  have lv6 := lV HS5
  refine named fun W6 hW6 => ?_
  have HS6 := onS hW6 HS5.out.va
  clear hW6 HS5
  clear p0
  refine (op_any ⟨#[46]⟩ (hi.below HS6.out.below)).mono ?_
  rintro e w7 ⟨rfl, hb7⟩
  rw [show opB (tokAt l i false) ⟨#[46]⟩ = false from HF.out.op _ (by decide)]
  have HS7 := hide (HS6.out.call hb7)
  clear hb7 HS6
  have p0 := rD HS7
  have hk13 : t4.kind = 13 := HT4.out ▸ HK.out
  have ek7 : (t4.kind == 7) = false := by rw [hk13]; rfl
  have en7 : (t4.kind != 7) = true := by rw [hk13]; rfl
  have ek12 : (t4.kind == 12) = false := by rw [hk13]; rfl
  have en12 : (t4.kind != 12) = true := by rw [hk13]; rfl
  have ek3 : (t4.kind == 3) = false := by rw [hk13]; rfl
  have en3 : (t4.kind != 3) = true := by rw [hk13]; rfl
  have ek13 : (t4.kind == 13) = true := by rw [hk13]; rfl
  clear hk13
  go_wp2_with fail
  refine (HP.out (hi.below HS7.out.below)).mono ?_
  rintro e w8 ⟨⟨k8, s8, y8, m8, c8, rfl, hn8⟩, hb8⟩
  have HS8 := hide (HS7.out.call hb8)
  have HNx8 := hide (show Nx w w8 [w.heap.size, w.heap.size + 1, w.heap.size + 1 + 1, w2.heap.size, w5.heap.size] _ _ from Nx.made hn8 HS7.out)
  clear hn8 hb8 HS7
  clear p0
  have p0 := rD HS8
  go_wp2_with fail
  have lv9 := lV HS8
  refine namedWp fun W9 hW9 => ?_
  have HS9 := onS hW9 HS8.out.va.va
  have HNx9 := hide (Nx.onto hW9 ((HNx8.out.var (g := w8.heap.size) (by simp) _).var (g := w8.heap.size + 1) (by simp) _))
  clear HNx8
  clear hW9 HS8
  clear p0
  refine rgn HS9.out [5, 6] fun W10 hW10 => ?_
  have HS10 := hide (St.onto hW10 HS9.out.dr)
  have HNx10 := hide (Nx.onto hW10 HNx9.out.dr)
  clear HNx9
  clear hW10 HS9
  refine tK 0 (kS HS10.out [5, 6]) ?_
  refine tK 1 (kS HS10.out [5, 6]) ?_
  refine rY 2 fun K hK => ?_
  have p1 := rG HS10 1
  go_simp
  refine onW hK (kS (HS10.out.st3 1 rfl _ _ _) [5, 6]) fun W11 hW11 => ?_
  clear hK K
  have HS11 := onS hW11 (HS10.out.st3 1 rfl _ _ _)
  have HNx11 := hide (Nx.onto hW11 (HNx10.out.st3 (by simp) _ _ _))
  clear HNx10
  clear hW11 HS10
  clear p1
  refine rY 3 fun K hK => ?_
  have p2 := rG HS11 2
  go_simp
  refine onW hK (kS (HS11.out.st3 2 rfl _ _ _) [5, 6]) fun W12 hW12 => ?_
  clear hK K
  have HS12 := onS hW12 (HS11.out.st3 2 rfl _ _ _)
  have HNx12 := hide (Nx.onto hW12 (HNx11.out.st3 (by simp) _ _ _))
  clear HNx11
  clear hW12 HS11
  clear p2
  refine wpAnyH_done (by kernel_rfl) ?_ _
  go_wp2_with fail
  refine namedPost fun W13 hW13 => ?_
  have HS13 := hide (St.onto hW13 HS12.out)
  have HNx13 := hide (Nx.onto hW13 HNx12.out)
  clear HNx12
  clear hW13 HS12
  exact ended_pn rfl rfl rfl (HS13.out.get 1 rfl) (HS13.out.get 2 rfl) ⟨⟨_, _, _, _, _, rfl, HNx13.out.out⟩, HS13.out.below⟩
set_option maxRecDepth 4000 in
set_option maxHeartbeats 4000000 in
theorem post_ex {l : List Tk} {a : Option Addr} {cap : Nat} {i j : Nat} {d : Nd} {w : World} (hi : Its w a l) (_hlt : i < l.length) (hp : ∀ ⦃w : World⦄, Its w a l → Calls Tryz.prog 112 #[.agg #[.slice a l.length cap, .int .i64 i, .bool false]] w (PE l a cap w j d)) (hf : Lst (tokAt l j false)) : Calls Tryz.prog 108 #[.agg #[.slice a l.length cap, .int .i64 i, .bool false]] w (PE l a cap w j d) := by
  have hlen := hi.2.1
  have HP := hide hp
  have HF := hide hf
  clear hf hp
  go_enter Tryz.func108, Tryz.ntmps108
  go_wp2_with fail
  refine named fun W1 hW1 => ?_
  have HS1 := onS hW1 (St.nil w).va.va.va
  clear hW1
  refine (HP.out (hi.below HS1.out.below)).mono ?_
  rintro e w2 ⟨⟨k2, s2, y2, m2, c2, rfl, hn2⟩, hb2⟩
  have HS2 := hide (HS1.out.call hb2)
  have HNn2 := hide (show Nx w w2 [w.heap.size, w.heap.size + 1, w.heap.size + 1 + 1] _ _ from Nx.made hn2 HS1.out)
  clear hn2 hb2 HS1
  have p0 := rD HS2
  go_wp2_with fail
  have lv3 := lV HS2
  refine namedWp fun W3 hW3 => ?_
  have HS3 := onS hW3 (HS2.out.st3 0 rfl _ _ _).va
  have HNn3 := hide (Nx.onto hW3 ((HNn2.out.st3 (by simp) _ _ _).var (g := w2.heap.size) (by simp) _))
  clear HNn2
  clear hW3 HS2
  clear p0
  refine wp_loop_rounds 1 ?_
  rw [rounds_succ]
  have p0 := rD HS3
  go_wp2_with fail
  obtain ⟨t4, ht4⟩ : ∃ t, tokAt l j false = t := ⟨_, rfl⟩
  have hok4 := tokAt_ok hi.2.2 j false
  rw [ht4] at hok4
  obtain ⟨hkb4, hz4, hone4⟩ := hok4
  have HT4 := hide ht4
  clear ht4
  have Hone4 := hide hone4
  clear hone4
  have hfa4 := fieldT0 t4.kind t4.text
  have hfb4 := fieldT1 t4.kind t4.text
  refine (tok_any (hi.below HS3.out.below)).mono ?_
  rintro e w5 ⟨rfl, hb5⟩
  rw [HT4.out]
  have HS5 := hide (HS3.out.call hb5)
  have HNn5 := hide (HNn3.out.call hb5)
  clear HNn3
  clear hb5 HS3
  clear p0
  have p0 := rD HS5
  have hk04 : (t4.kind == 4) = false := by have := HF.out.k; rw [HT4.out] at this; rcases this with h | h <;> rw [h] <;> rfl
  go_wp2_with fail
  have lv6 := lV HS5
  refine named fun W6 hW6 => ?_
  have HS6 := onS hW6 HS5.out.va
  have HNn6 := hide (Nx.onto hW6 (HNn5.out.var (g := w5.heap.size) (by simp) _))
  clear HNn5
  clear hW6 HS5
  clear p0
  refine (op_any ⟨#[63]⟩ (hi.below HS6.out.below)).mono ?_
  rintro e w7 ⟨rfl, hb7⟩
  rw [show opB (tokAt l j false) ⟨#[63]⟩ = false from HF.out.op _ (by decide)]
  have HS7 := hide (HS6.out.call hb7)
  have HNn7 := hide (HNn6.out.call hb7)
  clear HNn6
  clear hb7 HS6
  have p0 := rD HS7
  go_wp2_with fail
  refine (op_any ⟨#[91]⟩ (hi.below HS7.out.below)).mono ?_
  rintro e w8 ⟨rfl, hb8⟩
  rw [show opB (tokAt l j false) ⟨#[91]⟩ = false from HF.out.op _ (by decide)]
  have HS8 := hide (HS7.out.call hb8)
  have HNn8 := hide (HNn7.out.call hb8)
  clear HNn7
  clear hb8 HS7
  clear p0
  have p0 := rD HS8
  go_wp2_with fail
  refine (op_any ⟨#[46]⟩ (hi.below HS8.out.below)).mono ?_
  rintro e w9 ⟨rfl, hb9⟩
  rw [show opB (tokAt l j false) ⟨#[46]⟩ = false from HF.out.op _ (by decide)]
  have HS9 := hide (HS8.out.call hb9)
  have HNn9 := hide (HNn8.out.call hb9)
  clear HNn8
  clear hb9 HS8
  clear p0
  have p0 := rD HS9
  go_wp2_with fail
  clear p0
  refine namedWp fun W10 hW10 => ?_
  have HS10 := hide (St.onto hW10 HS9.out)
  have HNn10 := hide (Nx.onto hW10 HNn9.out)
  clear HNn9
  clear hW10 HS9
  refine rgn HS10.out [0, 3] fun W11 hW11 => ?_
  have HS11 := hide (St.onto hW11 HS10.out.dr)
  have HNn11 := hide (Nx.onto hW11 HNn10.out.dr)
  clear HNn10
  clear hW11 HS10
  refine tK 0 (kS HS11.out [0, 3]) ?_
  refine tK 1 (kS HS11.out [0, 3]) ?_
  refine rY 2 fun K hK => ?_
  have p1 := rG HS11 1
  go_simp
  refine onW hK (kS (HS11.out.st3 1 rfl _ _ _) [0, 3]) fun W12 hW12 => ?_
  clear hK K
  have HS12 := onS hW12 (HS11.out.st3 1 rfl _ _ _)
  have HNn12 := hide (Nx.onto hW12 (HNn11.out.st3 (by simp) _ _ _))
  clear HNn11
  clear hW12 HS11
  clear p1
  refine rY 3 fun K hK => ?_
  have p2 := rG HS12 2
  go_simp
  refine onW hK (kS (HS12.out.st3 2 rfl _ _ _) [0, 3]) fun W13 hW13 => ?_
  clear hK K
  have HS13 := onS hW13 (HS12.out.st3 2 rfl _ _ _)
  have HNn13 := hide (Nx.onto hW13 (HNn12.out.st3 (by simp) _ _ _))
  clear HNn12
  clear hW13 HS12
  clear p2
  refine wpAnyH_done (by kernel_rfl) ?_ _
  go_wp2_with fail
  refine namedPost fun W14 hW14 => ?_
  have HS14 := hide (St.onto hW14 HS13.out)
  have HNn14 := hide (Nx.onto hW14 HNn13.out)
  clear HNn13
  clear hW14 HS13
  exact ended_pn rfl rfl rfl (HS14.out.get 1 rfl) (HS14.out.get 2 rfl) ⟨⟨_, _, _, _, _, rfl, HNn14.out.out⟩, HS14.out.below⟩
set_option maxRecDepth 4000 in
set_option maxHeartbeats 4000000 in
theorem operand_ex {l : List Tk} {a : Option Addr} {cap : Nat} {i j : Nat} {d : Nd} {w : World} (hi : Its w a l) (_hlt : i < l.length) (hp : ∀ ⦃w : World⦄, Its w a l → Calls Tryz.prog 108 #[.agg #[.slice a l.length cap, .int .i64 i, .bool false]] w (PE l a cap w j d)) (hf : Fst (tokAt l i false)) (hg : Lst (tokAt l j false)) : Calls Tryz.prog 101 #[.agg #[.slice a l.length cap, .int .i64 i, .bool false]] w (PE l a cap w j d) := by
  have hlen := hi.2.1
  have HP := hide hp
  have HF := hide hf
  have HG := hide hg
  clear hf hp hg
  go_enter Tryz.func101, Tryz.ntmps101
  go_wp2_with fail
  refine named fun W1 hW1 => ?_
  have HS1 := onS hW1 (St.nil w).va.va.va
  clear hW1
  refine (op_any ⟨#[45]⟩ (hi.below HS1.out.below)).mono ?_
  rintro e w2 ⟨rfl, hb2⟩
  rw [show opB (tokAt l i false) ⟨#[45]⟩ = false from HF.out.op _ (by decide)]
  have HS2 := hide (HS1.out.call hb2)
  clear hb2 HS1
  have p0 := rD HS2
  go_wp2_with fail
  refine (isWord_any ⟨#[100, 101, 102]⟩ (hi.below HS2.out.below)).mono ?_
  rintro e w3 ⟨rfl, hb3⟩
  rw [show wordB (tokAt l i false) ⟨#[100, 101, 102]⟩ = false from HF.out.word _]
  have HS3 := hide (HS2.out.call hb3)
  clear hb3 HS2
  clear p0
  have p0 := rD HS3
  go_wp2_with fail
  refine (isWord_any ⟨#[108, 97, 98, 101, 108]⟩ (hi.below HS3.out.below)).mono ?_
  rintro e w4 ⟨rfl, hb4⟩
  rw [show wordB (tokAt l i false) ⟨#[108, 97, 98, 101, 108]⟩ = false from HF.out.word _]
  have HS4 := hide (HS3.out.call hb4)
  clear hb4 HS3
  clear p0
  have p0 := rD HS4
  go_wp2_with fail
  refine (isWord_any ⟨#[116, 114, 121]⟩ (hi.below HS4.out.below)).mono ?_
  rintro e w5 ⟨rfl, hb5⟩
  rw [show wordB (tokAt l i false) ⟨#[116, 114, 121]⟩ = false from HF.out.word _]
  have HS5 := hide (HS4.out.call hb5)
  clear hb5 HS4
  clear p0
  have p0 := rD HS5
  go_wp2_with fail
  refine (HP.out (hi.below HS5.out.below)).mono ?_
  rintro e w6 ⟨⟨k6, s6, y6, m6, c6, rfl, hn6⟩, hb6⟩
  have HS6 := hide (HS5.out.call hb6)
  have HNn6 := hide (show Nx w w6 [w.heap.size, w.heap.size + 1, w.heap.size + 1 + 1] _ _ from Nx.made hn6 HS5.out)
  clear hn6 hb6 HS5
  clear p0
  have p0 := rD HS6
  go_wp2_with fail
  have lv7 := lV HS6
  refine named fun W7 hW7 => ?_
  have HS7 := onS hW7 HS6.out.va.va
  have HNn7 := hide (Nx.onto hW7 ((HNn6.out.var (g := w6.heap.size) (by simp) _).var (g := w6.heap.size + 1) (by simp) _))
  clear HNn6
  clear hW7 HS6
  clear p0
  refine (isWord_any ⟨#[97, 115]⟩ (hi.below HS7.out.below)).mono ?_
  rintro e w8 ⟨rfl, hb8⟩
  rw [show wordB (tokAt l j false) ⟨#[97, 115]⟩ = false from HG.out.word _]
  have HS8 := hide (HS7.out.call hb8)
  have HNn8 := hide (HNn7.out.call hb8)
  clear HNn7
  clear hb8 HS7
  have p0 := rD HS8
  go_wp2_with fail
  refine namedWp fun W9 hW9 => ?_
  have HS9 := hide (St.onto hW9 HS8.out)
  have HNn9 := hide (Nx.onto hW9 HNn8.out)
  clear HNn8
  clear hW9 HS8
  clear p0
  refine rgn HS9.out [3, 4] fun W10 hW10 => ?_
  have HS10 := hide (St.onto hW10 HS9.out.dr)
  have HNn10 := hide (Nx.onto hW10 HNn9.out.dr)
  clear HNn9
  clear hW10 HS9
  refine tK 0 (kS HS10.out [3, 4]) ?_
  refine tK 1 (kS HS10.out [3, 4]) ?_
  refine rY 2 fun K hK => ?_
  have p1 := rG HS10 1
  go_simp
  refine onW hK (kS (HS10.out.st3 1 rfl _ _ _) [3, 4]) fun W11 hW11 => ?_
  clear hK K
  have HS11 := onS hW11 (HS10.out.st3 1 rfl _ _ _)
  have HNn11 := hide (Nx.onto hW11 (HNn10.out.st3 (by simp) _ _ _))
  clear HNn10
  clear hW11 HS10
  clear p1
  refine rY 3 fun K hK => ?_
  have p2 := rG HS11 2
  go_simp
  refine onW hK (kS (HS11.out.st3 2 rfl _ _ _) [3, 4]) fun W12 hW12 => ?_
  clear hK K
  have HS12 := onS hW12 (HS11.out.st3 2 rfl _ _ _)
  have HNn12 := hide (Nx.onto hW12 (HNn11.out.st3 (by simp) _ _ _))
  clear HNn11
  clear hW12 HS11
  clear p2
  refine wpAnyH_done (by kernel_rfl) ?_ _
  go_wp2_with fail
  refine namedPost fun W13 hW13 => ?_
  have HS13 := hide (St.onto hW13 HS12.out)
  have HNn13 := hide (Nx.onto hW13 HNn12.out)
  clear HNn12
  clear hW13 HS12
  exact ended_pn rfl rfl rfl (HS13.out.get 1 rfl) (HS13.out.get 2 rfl) ⟨⟨_, _, _, _, _, rfl, HNn13.out.out⟩, HS13.out.below⟩
theorem lst_op {t : Tk} {s : ByteArray} (h : Lst t) (ho : OfR t s) : s ∉ opsL := by
  have h0 : ∀ x ∈ opsL, x ≠ ⟨#[]⟩ ∧ x ≠ ⟨#[41]⟩ := by decide
  intro hm
  rcases ho with rfl | ⟨rfl, hk⟩
  · exact (h0 _ hm).1 rfl
  · rcases hk with hk | hk
    · rcases h.k with h | h <;> rw [hk] at h <;> cases h
    · exact (h0 _ hm).2 (h.x hk)
set_option maxRecDepth 4000 in
set_option maxHeartbeats 4000000 in
theorem exp_ex {l : List Tk} {a : Option Addr} {cap : Nat} {i j : Nat} {d : Nd} {w : World} (hi : Its w a l) (_hlt : i < l.length) (hp : ∀ ⦃w : World⦄, Its w a l → Calls Tryz.prog 101 #[.agg #[.slice a l.length cap, .int .i64 i, .bool false]] w (PE l a cap w j d)) (hg : Lst (tokAt l j false)) : Calls Tryz.prog 93 #[.agg #[.slice a l.length cap, .int .i64 i, .bool false], .int .i64 1] w (PE l a cap w j d) := by
  have hlen := hi.2.1
  have HP := hide hp
  have HG := hide hg
  clear hp hg
  go_enter Tryz.func93, Tryz.ntmps93
  go_wp2_with fail
  refine named fun W1 hW1 => ?_
  have HS1 := onS hW1 (St.nil w).va.va.va
  clear hW1
  refine (HP.out (hi.below HS1.out.below)).mono ?_
  rintro e w2 ⟨⟨k2, s2, y2, m2, c2, rfl, hn2⟩, hb2⟩
  have HS2 := hide (HS1.out.call hb2)
  have HNn2 := hide (show Nx w w2 [w.heap.size, w.heap.size + 1, w.heap.size + 1 + 1] _ _ from Nx.made hn2 HS1.out)
  clear hn2 hb2 HS1
  have p0 := rD HS2
  go_wp2_with fail
  have lv3 := lV HS2
  refine namedWp fun W3 hW3 => ?_
  have HS3 := onS hW3 (HS2.out.st3 0 rfl _ _ _).va
  have HNn3 := hide (Nx.onto hW3 ((HNn2.out.st3 (by simp) _ _ _).var (g := w2.heap.size) (by simp) _))
  clear HNn2
  clear hW3 HS2
  clear p0
  refine wp_loop_rounds 1 ?_
  rw [rounds_succ]
  have p0 := rD HS3
  go_wp2_with fail
  refine (operTok_any (hi.below HS3.out.below)).mono ?_
  rintro e w4 ⟨⟨op, rfl, hop⟩, hb4⟩
  have HS4 := hide (HS3.out.call hb4)
  have HNn4 := hide (HNn3.out.call hb4)
  clear HNn3
  clear hb4 HS3
  clear p0
  have p0 := rD HS4
  have Hop := hide hop
  clear hop
  go_wp2_with fail
  refine (level_any op _).mono ?_
  rintro e w5 ⟨⟨v, rfl, hv, hvo⟩, hb5⟩
  have HS5 := hide (HS4.out.call hb5)
  have HNn5 := hide (HNn4.out.call hb5)
  clear HNn4
  clear hb5 HS4
  clear p0
  have p0 := rD HS5
  have hv0 : v = 0 := by
    rcases Nat.eq_zero_or_pos v with h | h
    · exact h
    · exact absurd (hvo (by omega)) (lst_op HG.out Hop.out)
  subst hv0
  clear hv hvo
  go_wp2_with fail
  clear p0
  refine namedWp fun W6 hW6 => ?_
  have HS6 := hide (St.onto hW6 HS5.out)
  have HNn6 := hide (Nx.onto hW6 HNn5.out)
  clear HNn5
  clear hW6 HS5
  refine rgn HS6.out [0, 3] fun W7 hW7 => ?_
  have HS7 := hide (St.onto hW7 HS6.out.dr)
  have HNn7 := hide (Nx.onto hW7 HNn6.out.dr)
  clear HNn6
  clear hW7 HS6
  refine tK 0 (kS HS7.out [0, 3]) ?_
  refine tK 1 (kS HS7.out [0, 3]) ?_
  refine rY 2 fun K hK => ?_
  have p1 := rG HS7 1
  go_simp
  refine onW hK (kS (HS7.out.st3 1 rfl _ _ _) [0, 3]) fun W8 hW8 => ?_
  clear hK K
  have HS8 := onS hW8 (HS7.out.st3 1 rfl _ _ _)
  have HNn8 := hide (Nx.onto hW8 (HNn7.out.st3 (by simp) _ _ _))
  clear HNn7
  clear hW8 HS7
  clear p1
  refine rY 3 fun K hK => ?_
  have p2 := rG HS8 2
  go_simp
  refine onW hK (kS (HS8.out.st3 2 rfl _ _ _) [0, 3]) fun W9 hW9 => ?_
  clear hK K
  have HS9 := onS hW9 (HS8.out.st3 2 rfl _ _ _)
  have HNn9 := hide (Nx.onto hW9 (HNn8.out.st3 (by simp) _ _ _))
  clear HNn8
  clear hW9 HS8
  clear p2
  refine wpAnyH_done (by kernel_rfl) ?_ _
  go_wp2_with fail
  refine namedPost fun W10 hW10 => ?_
  have HS10 := hide (St.onto hW10 HS9.out)
  have HNn10 := hide (Nx.onto hW10 HNn9.out)
  clear HNn9
  clear hW10 HS9
  exact ended_pn rfl rfl rfl (HS10.out.get 1 rfl) (HS10.out.get 2 rfl) ⟨⟨_, _, _, _, _, rfl, HNn10.out.out⟩, HS10.out.below⟩
set_option maxRecDepth 4000 in
set_option maxHeartbeats 4000000 in
theorem pipe_ex {l : List Tk} {a : Option Addr} {cap : Nat} {i j : Nat} {d : Nd} {w : World} (hi : Its w a l) (_hlt : i < l.length) (hp : ∀ ⦃w : World⦄, Its w a l → Calls Tryz.prog 93 #[.agg #[.slice a l.length cap, .int .i64 i, .bool false], .int .i64 1] w (PE l a cap w j d)) : Calls Tryz.prog 72 #[.agg #[.slice a l.length cap, .int .i64 i, .bool false]] w (PE l a cap w j d) := by
  have hlen := hi.2.1
  have HP := hide hp
  clear hp
  go_enter Tryz.func72, Tryz.ntmps72
  go_wp2_with fail
  refine named fun W1 hW1 => ?_
  have HS1 := onS hW1 (St.nil w).va.va.va
  clear hW1
  refine (HP.out (hi.below HS1.out.below)).mono ?_
  rintro e w2 ⟨⟨k2, s2, y2, m2, c2, rfl, hn2⟩, hb2⟩
  have HS2 := hide (HS1.out.call hb2)
  have HNn2 := hide (show Nx w w2 [w.heap.size, w.heap.size + 1, w.heap.size + 1 + 1] _ _ from Nx.made hn2 HS1.out)
  clear hn2 hb2 HS1
  have p0 := rD HS2
  go_wp2_with fail
  have lv3 := lV HS2
  refine namedWp fun W3 hW3 => ?_
  have HS3 := onS hW3 HS2.out.va.va
  have HNn3 := hide (Nx.onto hW3 ((HNn2.out.var (g := w2.heap.size) (by simp) _).var (g := w2.heap.size + 1) (by simp) _))
  clear HNn2
  clear hW3 HS2
  clear p0
  refine rgn HS3.out [3, 4] fun W4 hW4 => ?_
  have HS4 := hide (St.onto hW4 HS3.out.dr)
  have HNn4 := hide (Nx.onto hW4 HNn3.out.dr)
  clear HNn3
  clear hW4 HS3
  refine tK 0 (kS HS4.out [3, 4]) ?_
  refine tK 1 (kS HS4.out [3, 4]) ?_
  refine rY 2 fun K hK => ?_
  have p1 := rG HS4 1
  go_simp
  refine onW hK (kS (HS4.out.st3 1 rfl _ _ _) [3, 4]) fun W5 hW5 => ?_
  clear hK K
  have HS5 := onS hW5 (HS4.out.st3 1 rfl _ _ _)
  have HNn5 := hide (Nx.onto hW5 (HNn4.out.st3 (by simp) _ _ _))
  clear HNn4
  clear hW5 HS4
  clear p1
  refine rY 3 fun K hK => ?_
  have p2 := rG HS5 2
  go_simp
  refine onW hK (kS (HS5.out.st3 2 rfl _ _ _) [3, 4]) fun W6 hW6 => ?_
  clear hK K
  have HS6 := onS hW6 (HS5.out.st3 2 rfl _ _ _)
  have HNn6 := hide (Nx.onto hW6 (HNn5.out.st3 (by simp) _ _ _))
  clear HNn5
  clear hW6 HS5
  clear p2
  refine wpAnyH_done (by kernel_rfl) ?_ _
  go_wp2_with fail
  refine namedPost fun W7 hW7 => ?_
  have HS7 := hide (St.onto hW7 HS6.out)
  have HNn7 := hide (Nx.onto hW7 HNn6.out)
  clear HNn6
  clear hW7 HS6
  exact ended_pn rfl rfl rfl (HS7.out.get 1 rfl) (HS7.out.get 2 rfl) ⟨⟨_, _, _, _, _, rfl, HNn7.out.out⟩, HS7.out.below⟩
set_option maxRecDepth 4000 in
set_option maxHeartbeats 4000000 in
theorem program_ex {l : List Tk} {a : Option Addr} {cap : Nat} {i j : Nat} {d : Nd} {w : World} (hi : Its w a l) (_hlt : i < l.length) (hp : ∀ ⦃w : World⦄, Its w a l → Calls Tryz.prog 72 #[.agg #[.slice a l.length cap, .int .i64 i, .bool false]] w (PE l a cap w j d)) (hf : Fst (tokAt l i false)) (hend : l.length = j) : Calls Tryz.prog 58 #[.agg #[.slice a l.length cap, .int .i64 i, .bool false]] w (PE l a cap w j d) := by
  have hlen := hi.2.1
  have HP := hide hp
  have HF := hide hf
  clear hf hp
  have hend2 : ¬ j < l.length := by omega
  have HE := hide hend
  clear hend
  go_enter Tryz.func58, Tryz.ntmps58
  go_wp2_with fail
  refine namedWp fun W1 hW1 => ?_
  have HS1 := onS hW1 (St.nil w).va.va.va.va
  clear hW1
  refine wp_loop_rounds 1 ?_
  rw [rounds_succ]
  have p0 := rD HS1
  go_wp2_with fail
  refine (isWord_any ⟨#[105, 109, 112, 111, 114, 116]⟩ (hi.below HS1.out.below)).mono ?_
  rintro e w2 ⟨rfl, hb2⟩
  rw [show wordB (tokAt l i false) ⟨#[105, 109, 112, 111, 114, 116]⟩ = false from HF.out.word _]
  have HS2 := hide (HS1.out.call hb2)
  clear hb2 HS1
  clear p0
  have p0 := rD HS2
  go_wp2_with fail
  refine (isWord_any ⟨#[105, 110, 99, 108, 117, 100, 101]⟩ (hi.below HS2.out.below)).mono ?_
  rintro e w3 ⟨rfl, hb3⟩
  rw [show wordB (tokAt l i false) ⟨#[105, 110, 99, 108, 117, 100, 101]⟩ = false from HF.out.word _]
  have HS3 := hide (HS2.out.call hb3)
  clear hb3 HS2
  clear p0
  have p0 := rD HS3
  go_wp2_with fail
  have lv4 := lV HS3
  refine named fun W4 hW4 => ?_
  have HS4 := onS hW4 HS3.out.va
  clear hW4 HS3
  clear p0
  refine (isWord_any ⟨#[100, 101, 102]⟩ (hi.below HS4.out.below)).mono ?_
  rintro e w5 ⟨rfl, hb5⟩
  rw [show wordB (tokAt l i false) ⟨#[100, 101, 102]⟩ = false from HF.out.word _]
  have HS5 := hide (HS4.out.call hb5)
  clear hb5 HS4
  have p0 := rD HS5
  go_wp2_with fail
  refine (HP.out (hi.below HS5.out.below)).mono ?_
  rintro e w6 ⟨⟨k6, s6, y6, m6, c6, rfl, hn6⟩, hb6⟩
  have HS6 := hide (HS5.out.call hb6)
  have HNn26 := hide (show Nx w w6 [w.heap.size, w.heap.size + 1, w.heap.size + 1 + 1, w.heap.size + 1 + 1 + 1, w3.heap.size] _ _ from Nx.made hn6 HS5.out)
  clear hn6 hb6 HS5
  clear p0
  have p0 := rD HS6
  go_wp2_with (refine stopAt 63 ?_)
  have lv7 := lV HS6
  refine namedStop fun W7 hW7 => ?_
  have HS7 := onS hW7 (HS6.out.st3 0 rfl _ _ _).va.va
  have HNn27 := hide (Nx.onto hW7 (((HNn26.out.st3 (by simp) _ _ _).var (g := w6.heap.size) (by simp) _).var (g := w6.heap.size + 1) (by simp) _))
  clear HNn26
  clear hW7 HS6
  clear p0
  have p0 := rD HS7
  go_wp2_with (refine stopAt 64 ?_)
  refine namedStop fun W8 hW8 => ?_
  have HS8 := onS hW8 (HS7.out.st3 4 rfl _ _ _)
  have HNn8 := hide (Nx.onto hW8 (HNn27.out.st3 (by simp) _ _ _))
  clear HNn27
  clear hW8 HS7
  clear p0
  have p0 := rD HS8
  go_wp2_with fail
  clear p0
  refine namedWp fun W9 hW9 => ?_
  have HS9 := hide (St.onto hW9 HS8.out)
  have HNn9 := hide (Nx.onto hW9 HNn8.out)
  clear HNn8
  clear hW9 HS8
  refine rgn HS9.out [0, 4] fun W10 hW10 => ?_
  have HS10 := hide (St.onto hW10 HS9.out.dr)
  have HNn10 := hide (Nx.onto hW10 HNn9.out.dr)
  clear HNn9
  clear hW10 HS9
  refine tK 0 (kS HS10.out [0, 4]) ?_
  refine tK 1 (kS HS10.out [0, 4]) ?_
  refine rY 2 fun K hK => ?_
  have p1 := rG HS10 1
  go_simp
  refine onW hK (kS (HS10.out.st3 1 rfl _ _ _) [0, 4]) fun W11 hW11 => ?_
  clear hK K
  have HS11 := onS hW11 (HS10.out.st3 1 rfl _ _ _)
  have HNn11 := hide (Nx.onto hW11 (HNn10.out.st3 (by simp) _ _ _))
  clear HNn10
  clear hW11 HS10
  clear p1
  refine rY 3 fun K hK => ?_
  have p2 := rG HS11 2
  go_simp
  refine onW hK (kS (HS11.out.st3 2 rfl _ _ _) [0, 4]) fun W12 hW12 => ?_
  clear hK K
  have HS12 := onS hW12 (HS11.out.st3 2 rfl _ _ _)
  have HNn12 := hide (Nx.onto hW12 (HNn11.out.st3 (by simp) _ _ _))
  clear HNn11
  clear hW12 HS11
  clear p2
  refine wpAnyH_done (by kernel_rfl) ?_ _
  go_wp2_with fail
  refine namedPost fun W13 hW13 => ?_
  have HS13 := hide (St.onto hW13 HS12.out)
  have HNn13 := hide (Nx.onto hW13 HNn12.out)
  clear HNn12
  clear hW13 HS12
  exact ended_pn rfl rfl rfl (HS13.out.get 1 rfl) (HS13.out.get 2 rfl) ⟨⟨_, _, _, _, _, rfl, HNn13.out.out⟩, HS13.out.below⟩
end Go.Proofs.YtacgmmpdichlmaaGreat
