/-
  The reference's plain: the token outside of strings that a text begins with. Its condition: a text has at most 65536 bytes, and one at least.
-/
import Derived.Test.YtacgmmpdichlmaaGreatM03
import Derived.Test.YtacgmmpdichlmaaGreatM02
namespace Go.Proofs.YtacgmmpdichlmaaGreat
open Go.RowKit

theorem asB {P : Program} {f : Nat} {a : Array Value} {w : World} {R : Ending → Prop} (h : Calls P f a w fun e w' => R e ∧ w' = w) : Calls P f a w fun e w' => R e ∧ Below w.heap.size w w' :=
  h.mono fun _ _ h => ⟨h.1, h.2 ▸ Below.refl _ _⟩
/-- What plain tells. -/
def PlainR (s : ByteArray) (t : Tk) : Prop := (1 ≤ t.kind ∧ t.kind ≤ 13) ∧ ∃ n, n ≤ s.size ∧ t.text = s.extract 0 n ∧ (t.kind = 4 ∨ t.kind = 5 → 1 ≤ n)
theorem PlainR.mk_ {s : ByteArray} {k : Int} {n : Nat} (hk : 1 ≤ k ∧ k ≤ 13) (hn : n ≤ s.size) (h4 : k = 4 ∨ k = 5 → 1 ≤ n) : PlainR s ⟨k, s.extract 0 n⟩ := ⟨hk, n, hn, rfl, h4⟩
theorem word_b (s : ByteArray) (w : World) (hs : s.size ≤ 65536) : Calls Tryz.prog 81 #[.string s] w fun e w' => (∃ n : Nat, e = .returned (.int .i64 n) ∧ n ≤ s.size) ∧ Below w.heap.size w w' := (word_any s w hs).mono fun _ _ ⟨⟨n, h1, h2⟩, h3⟩ => ⟨⟨n, h1, h2.1⟩, h3 ▸ Below.refl _ _⟩
theorem number_b (s : ByteArray) (w : World) (hs : s.size ≤ 65536) : Calls Tryz.prog 84 #[.string s] w fun e w' => (∃ n : Nat, e = .returned (.int .i64 n) ∧ n ≤ s.size) ∧ Below w.heap.size w w' := asB (number_any s w hs)
theorem blanks_b (s : ByteArray) (w : World) (hs : s.size ≤ 65536) : Calls Tryz.prog 79 #[.string s] w fun e w' => (∃ n : Nat, e = .returned (.int .i64 n) ∧ n ≤ s.size) ∧ Below w.heap.size w w' := asB (blanks_any s w (by simp only [maxLen]; omega))
theorem note_b (s : ByteArray) (w : World) (hs : s.size ≤ 65536) : Calls Tryz.prog 80 #[.string s] w fun e w' => (∃ n : Nat, e = .returned (.int .i64 n) ∧ n ≤ s.size) ∧ Below w.heap.size w w' := asB (note_any s w (by simp only [maxLen]; omega))
theorem part_b (s : ByteArray) (w : World) (hs : s.size ≤ 65536) : Calls Tryz.prog 83 #[.string s] w fun e w' => (∃ n : Nat, e = .returned (.int .i64 n) ∧ n ≤ s.size) ∧ Below w.heap.size w w' := asB (part_any s w (by simp only [maxLen]; omega))
theorem oper_b (s : ByteArray) (w : World) (hs : s.size ≤ 65536) : Calls Tryz.prog 85 #[.string s] w fun e w' => (∃ n : Nat, e = .returned (.int .i64 n) ∧ n ≤ s.size) ∧ Below w.heap.size w w' := (oper_any s w hs).mono fun _ _ ⟨⟨n, h1, h2⟩, h3⟩ => ⟨⟨n, h1, h2.le⟩, h3⟩
theorem size1 {s : ByteArray} : (s.extract 1 s.size).size = s.size - 1 := by rw [ByteArray.size_extract]; omega

set_option maxRecDepth 4000 in
set_option maxHeartbeats 4000000 in
theorem plainTok_any (s : ByteArray) (w : World) (hs : s.size ≤ 65536) (h0 : 0 < s.size) : Calls Tryz.prog 68 #[.string s] w fun e w' => (∃ t : Tk, e = .returned (.agg #[.int .i64 t.kind, .string t.text]) ∧ PlainR s t) ∧ Below w.heap.size w w' := by
  obtain ⟨c, hc, hc1⟩ : ∃ c : Nat, s[0].toNat = c ∧ c ≤ 255 := ⟨_, rfl, by have := s[0].toNat_lt; omega⟩
  have hz1 := size1 (s := s)
  have HZ := hide hz1
  clear hz1
  go_enter Tryz.func68, Tryz.ntmps68
  go_wp2_with fail
  refine named fun W1 hW1 => ?_
  have HS1 := onS hW1 (St.nil w).va
  clear hW1
  refine (asB (blank_any c _)).mono ?_
  rintro e w2 ⟨rfl, hb2⟩
  have HS2 := hide (HS1.out.call hb2)
  clear hb2 HS1
  have p0 := rD HS2
  cases hb : blankB c
  case true =>
   go_wp2_with fail
   refine (blanks_b s _ hs).mono ?_
   rintro e w3 ⟨⟨n, rfl, hn⟩, hb3⟩
   have HS3 := hide (HS2.out.call hb3)
   clear hb3 HS2
   clear p0
   have p0 := rD HS3
   go_wp2_with fail
   refine namedPost fun W4 hW4 => ?_
   have HS4 := onS hW4 (HS3.out.st2 0 rfl _ _)
   clear hW4 HS3
   clear p0
   exact ended_tok rfl rfl (HS4.out.get 0 rfl) ⟨⟨⟨1, s.extract 0 n⟩, rfl, PlainR.mk_ (by omega) (by omega) (fun h => by omega)⟩, HS4.out.below⟩
  clear hb
  by_cases h35 : c = 35
  ·
   have e35 : ((c : Int) == 35) = true := by simp; omega
   go_wp2_with fail
   refine (note_b s _ hs).mono ?_
   rintro e w5 ⟨⟨n, rfl, hn⟩, hb5⟩
   have HS5 := hide (HS2.out.call hb5)
   clear hb5 HS2
   clear p0
   have p0 := rD HS5
   go_wp2_with fail
   refine namedPost fun W6 hW6 => ?_
   have HS6 := onS hW6 (HS5.out.st2 0 rfl _ _)
   clear hW6 HS5
   clear p0
   exact ended_tok rfl rfl (HS6.out.get 0 rfl) ⟨⟨⟨2, s.extract 0 n⟩, rfl, PlainR.mk_ (by omega) (by omega) (fun h => by omega)⟩, HS6.out.below⟩
  have e35 : ((c : Int) == 35) = false := by simp; omega
  clear h35
  go_wp2_with fail
  refine (word_b s _ hs).mono ?_
  rintro e w7 ⟨⟨n, rfl, hn⟩, hb7⟩
  have HS7 := hide (HS2.out.call hb7)
  clear hb7 HS2
  clear p0
  have p0 := rD HS7
  by_cases hn0 : 0 < n
  ·
   have hn0i : (0 : Int) < (n : Int) := by omega
   go_wp2_with fail
   refine (word_b s _ hs).mono ?_
   rintro e w8 ⟨⟨m, rfl, hm⟩, hb8⟩
   have HS8 := hide (HS7.out.call hb8)
   clear hb8 HS7
   clear p0
   have p0 := rD HS8
   go_wp2_with fail
   refine namedPost fun W9 hW9 => ?_
   have HS9 := onS hW9 (HS8.out.st2 0 rfl _ _)
   clear hW9 HS8
   clear p0
   exact ended_tok rfl rfl (HS9.out.get 0 rfl) ⟨⟨⟨3, s.extract 0 m⟩, rfl, PlainR.mk_ (by omega) (by omega) (fun h => by omega)⟩, HS9.out.below⟩
  have hn0i : ¬ (0 : Int) < (n : Int) := by omega
  clear hn0
  by_cases h46 : c = 46 ∧ 1 < s.size
  ·
   obtain ⟨h46, h1s⟩ := h46
   have e46 : ((c : Int) == 46) = true := by simp; omega
   have e36 : ((c : Int) == 36) = false := by simp; omega
   have e64 : ((c : Int) == 64) = false := by simp; omega
   have h1i : (1 : Int) < (s.size : Int) := by omega
   obtain ⟨c2, hc2, hc21⟩ : ∃ c2 : Nat, s[1].toNat = c2 ∧ c2 ≤ 255 := ⟨_, rfl, by have := s[1].toNat_lt; omega⟩
   clear h46
   go_wp2_with fail
   refine (asB (letter_any c2 _)).mono ?_
   rintro e w10 ⟨rfl, hb10⟩
   have HS10 := hide (HS7.out.call hb10)
   clear hb10 HS7
   clear p0
   have p0 := rD HS10
   cases hl : letterB c2
   case true =>
    go_wp2_with fail
    refine (part_b (s.extract 1 s.size) _ (by rw [HZ.out]; omega)).mono ?_
    rintro e w11 ⟨⟨m, rfl, hm⟩, hb11⟩
    have HS11 := hide (HS10.out.call hb11)
    clear hb11 HS10
    clear p0
    have p0 := rD HS11
    rw [HZ.out] at hm
    go_wp2_with fail
    refine namedPost fun W12 hW12 => ?_
    have HS12 := onS hW12 (HS11.out.st2 0 rfl _ _)
    clear hW12 HS11
    clear p0
    exact ended_tok rfl rfl (HS12.out.get 0 rfl) ⟨⟨⟨4, s.extract 0 (1 + m)⟩, rfl, PlainR.mk_ (by omega) (by omega) (fun h => by omega)⟩, HS12.out.below⟩
   clear hl
   go_wp2_with fail
   refine (number_b s _ hs).mono ?_
   rintro e w13 ⟨⟨u, rfl, hu⟩, hb13⟩
   have HS13 := hide (HS10.out.call hb13)
   clear hb13 HS10
   clear p0
   have p0 := rD HS13
   by_cases hu0 : 0 < u
   ·
    have hu0i : (0 : Int) < (u : Int) := by omega
    go_wp2_with fail
    refine (number_b s _ hs).mono ?_
    rintro e w14 ⟨⟨m, rfl, hm⟩, hb14⟩
    have HS14 := hide (HS13.out.call hb14)
    clear hb14 HS13
    clear p0
    have p0 := rD HS14
    go_wp2_with fail
    refine namedPost fun W15 hW15 => ?_
    have HS15 := onS hW15 (HS14.out.st2 0 rfl _ _)
    clear hW15 HS14
    clear p0
    exact ended_tok rfl rfl (HS15.out.get 0 rfl) ⟨⟨⟨6, s.extract 0 m⟩, rfl, PlainR.mk_ (by omega) (by omega) (fun h => by omega)⟩, HS15.out.below⟩
   have hu0i : ¬ (0 : Int) < (u : Int) := by omega
   clear hu0
   by_cases h34 : c = 34
   ·
    have e34 : ((c : Int) == 34) = true := by simp; omega
    clear h34
    go_wp2_with fail
    refine namedPost fun W16 hW16 => ?_
    have HS16 := onS hW16 (HS13.out.st2 0 rfl _ _)
    clear hW16 HS13
    clear p0
    exact ended_tok rfl rfl (HS16.out.get 0 rfl) ⟨⟨⟨7, s.extract 0 1⟩, rfl, PlainR.mk_ (by omega) (by omega) (fun h => by omega)⟩, HS16.out.below⟩
   have e34 : ((c : Int) == 34) = false := by simp; omega
   clear h34
   go_wp2_with fail
   refine (oper_b s _ hs).mono ?_
   rintro e w17 ⟨⟨m, rfl, hm⟩, hb17⟩
   have HS17 := hide (HS13.out.call hb17)
   clear hb17 HS13
   clear p0
   have p0 := rD HS17
   go_wp2_with fail
   refine namedPost fun W18 hW18 => ?_
   have HS18 := onS hW18 (HS17.out.st2 0 rfl _ _)
   clear hW18 HS17
   clear p0
   exact ended_tok rfl rfl (HS18.out.get 0 rfl) ⟨⟨⟨13, s.extract 0 m⟩, rfl, PlainR.mk_ (by omega) (by omega) (fun h => by omega)⟩, HS18.out.below⟩
  by_cases h46b : c = 46
  ·
   have h1i : ¬ (1 : Int) < (s.size : Int) := by omega
   have e46 : ((c : Int) == 46) = true := by simp; omega
   have e36 : ((c : Int) == 36) = false := by simp; omega
   have e64 : ((c : Int) == 64) = false := by simp; omega
   clear h46 h46b
   go_wp2_with fail
   refine (number_b s _ hs).mono ?_
   rintro e w19 ⟨⟨u, rfl, hu⟩, hb19⟩
   have HS19 := hide (HS7.out.call hb19)
   clear hb19 HS7
   clear p0
   have p0 := rD HS19
   by_cases hu0 : 0 < u
   ·
    have hu0i : (0 : Int) < (u : Int) := by omega
    go_wp2_with fail
    refine (number_b s _ hs).mono ?_
    rintro e w20 ⟨⟨m, rfl, hm⟩, hb20⟩
    have HS20 := hide (HS19.out.call hb20)
    clear hb20 HS19
    clear p0
    have p0 := rD HS20
    go_wp2_with fail
    refine namedPost fun W21 hW21 => ?_
    have HS21 := onS hW21 (HS20.out.st2 0 rfl _ _)
    clear hW21 HS20
    clear p0
    exact ended_tok rfl rfl (HS21.out.get 0 rfl) ⟨⟨⟨6, s.extract 0 m⟩, rfl, PlainR.mk_ (by omega) (by omega) (fun h => by omega)⟩, HS21.out.below⟩
   have hu0i : ¬ (0 : Int) < (u : Int) := by omega
   clear hu0
   by_cases h34 : c = 34
   ·
    have e34 : ((c : Int) == 34) = true := by simp; omega
    clear h34
    go_wp2_with fail
    refine namedPost fun W22 hW22 => ?_
    have HS22 := onS hW22 (HS19.out.st2 0 rfl _ _)
    clear hW22 HS19
    clear p0
    exact ended_tok rfl rfl (HS22.out.get 0 rfl) ⟨⟨⟨7, s.extract 0 1⟩, rfl, PlainR.mk_ (by omega) (by omega) (fun h => by omega)⟩, HS22.out.below⟩
   have e34 : ((c : Int) == 34) = false := by simp; omega
   clear h34
   go_wp2_with fail
   refine (oper_b s _ hs).mono ?_
   rintro e w23 ⟨⟨m, rfl, hm⟩, hb23⟩
   have HS23 := hide (HS19.out.call hb23)
   clear hb23 HS19
   clear p0
   have p0 := rD HS23
   go_wp2_with fail
   refine namedPost fun W24 hW24 => ?_
   have HS24 := onS hW24 (HS23.out.st2 0 rfl _ _)
   clear hW24 HS23
   clear p0
   exact ended_tok rfl rfl (HS24.out.get 0 rfl) ⟨⟨⟨13, s.extract 0 m⟩, rfl, PlainR.mk_ (by omega) (by omega) (fun h => by omega)⟩, HS24.out.below⟩
  have e46 : ((c : Int) == 46) = false := by simp; omega
  clear h46 h46b
  by_cases h36 : c = 36
  ·
   have e36 : ((c : Int) == 36) = true := by simp; omega
   have e64 : ((c : Int) == 64) = false := by simp; omega
   clear h36
   go_wp2_with fail
   refine (word_b (s.extract 1 s.size) _ (by rw [HZ.out]; omega)).mono ?_
   rintro e w25 ⟨⟨k, rfl, hk⟩, hb25⟩
   have HS25 := hide (HS7.out.call hb25)
   clear hb25 HS7
   clear p0
   have p0 := rD HS25
   rw [HZ.out] at hk
   by_cases hk0 : 0 < k
   ·
    have hk0i : (0 : Int) < (k : Int) := by omega
    go_wp2_with fail
    refine (word_b (s.extract 1 s.size) _ (by rw [HZ.out]; omega)).mono ?_
    rintro e w26 ⟨⟨m, rfl, hm⟩, hb26⟩
    have HS26 := hide (HS25.out.call hb26)
    clear hb26 HS25
    clear p0
    have p0 := rD HS26
    rw [HZ.out] at hm
    go_wp2_with fail
    refine namedPost fun W27 hW27 => ?_
    have HS27 := onS hW27 (HS26.out.st2 0 rfl _ _)
    clear hW27 HS26
    clear p0
    exact ended_tok rfl rfl (HS27.out.get 0 rfl) ⟨⟨⟨5, s.extract 0 (1 + m)⟩, rfl, PlainR.mk_ (by omega) (by omega) (fun h => by omega)⟩, HS27.out.below⟩
   have hk0i : ¬ (0 : Int) < (k : Int) := by omega
   clear hk0
   go_wp2_with fail
   refine (number_b s _ hs).mono ?_
   rintro e w28 ⟨⟨u, rfl, hu⟩, hb28⟩
   have HS28 := hide (HS25.out.call hb28)
   clear hb28 HS25
   clear p0
   have p0 := rD HS28
   by_cases hu0 : 0 < u
   ·
    have hu0i : (0 : Int) < (u : Int) := by omega
    go_wp2_with fail
    refine (number_b s _ hs).mono ?_
    rintro e w29 ⟨⟨m, rfl, hm⟩, hb29⟩
    have HS29 := hide (HS28.out.call hb29)
    clear hb29 HS28
    clear p0
    have p0 := rD HS29
    go_wp2_with fail
    refine namedPost fun W30 hW30 => ?_
    have HS30 := onS hW30 (HS29.out.st2 0 rfl _ _)
    clear hW30 HS29
    clear p0
    exact ended_tok rfl rfl (HS30.out.get 0 rfl) ⟨⟨⟨6, s.extract 0 m⟩, rfl, PlainR.mk_ (by omega) (by omega) (fun h => by omega)⟩, HS30.out.below⟩
   have hu0i : ¬ (0 : Int) < (u : Int) := by omega
   clear hu0
   by_cases h34 : c = 34
   ·
    have e34 : ((c : Int) == 34) = true := by simp; omega
    clear h34
    go_wp2_with fail
    refine namedPost fun W31 hW31 => ?_
    have HS31 := onS hW31 (HS28.out.st2 0 rfl _ _)
    clear hW31 HS28
    clear p0
    exact ended_tok rfl rfl (HS31.out.get 0 rfl) ⟨⟨⟨7, s.extract 0 1⟩, rfl, PlainR.mk_ (by omega) (by omega) (fun h => by omega)⟩, HS31.out.below⟩
   have e34 : ((c : Int) == 34) = false := by simp; omega
   clear h34
   go_wp2_with fail
   refine (oper_b s _ hs).mono ?_
   rintro e w32 ⟨⟨m, rfl, hm⟩, hb32⟩
   have HS32 := hide (HS28.out.call hb32)
   clear hb32 HS28
   clear p0
   have p0 := rD HS32
   go_wp2_with fail
   refine namedPost fun W33 hW33 => ?_
   have HS33 := onS hW33 (HS32.out.st2 0 rfl _ _)
   clear hW33 HS32
   clear p0
   exact ended_tok rfl rfl (HS33.out.get 0 rfl) ⟨⟨⟨13, s.extract 0 m⟩, rfl, PlainR.mk_ (by omega) (by omega) (fun h => by omega)⟩, HS33.out.below⟩
  have e36 : ((c : Int) == 36) = false := by simp; omega
  clear h36
  by_cases h64 : c = 64
  ·
   have e64 : ((c : Int) == 64) = true := by simp; omega
   clear h64
   go_wp2_with fail
   refine (part_b (s.extract 1 s.size) _ (by rw [HZ.out]; omega)).mono ?_
   rintro e w34 ⟨⟨k, rfl, hk⟩, hb34⟩
   have HS34 := hide (HS7.out.call hb34)
   clear hb34 HS7
   clear p0
   have p0 := rD HS34
   rw [HZ.out] at hk
   by_cases hk0 : 0 < k
   ·
    have hk0i : (0 : Int) < (k : Int) := by omega
    go_wp2_with fail
    refine (part_b (s.extract 1 s.size) _ (by rw [HZ.out]; omega)).mono ?_
    rintro e w35 ⟨⟨m, rfl, hm⟩, hb35⟩
    have HS35 := hide (HS34.out.call hb35)
    clear hb35 HS34
    clear p0
    have p0 := rD HS35
    rw [HZ.out] at hm
    go_wp2_with fail
    refine namedPost fun W36 hW36 => ?_
    have HS36 := onS hW36 (HS35.out.st2 0 rfl _ _)
    clear hW36 HS35
    clear p0
    exact ended_tok rfl rfl (HS36.out.get 0 rfl) ⟨⟨⟨12, s.extract 0 (1 + m)⟩, rfl, PlainR.mk_ (by omega) (by omega) (fun h => by omega)⟩, HS36.out.below⟩
   have hk0i : ¬ (0 : Int) < (k : Int) := by omega
   clear hk0
   go_wp2_with fail
   refine (number_b s _ hs).mono ?_
   rintro e w37 ⟨⟨u, rfl, hu⟩, hb37⟩
   have HS37 := hide (HS34.out.call hb37)
   clear hb37 HS34
   clear p0
   have p0 := rD HS37
   by_cases hu0 : 0 < u
   ·
    have hu0i : (0 : Int) < (u : Int) := by omega
    go_wp2_with fail
    refine (number_b s _ hs).mono ?_
    rintro e w38 ⟨⟨m, rfl, hm⟩, hb38⟩
    have HS38 := hide (HS37.out.call hb38)
    clear hb38 HS37
    clear p0
    have p0 := rD HS38
    go_wp2_with fail
    refine namedPost fun W39 hW39 => ?_
    have HS39 := onS hW39 (HS38.out.st2 0 rfl _ _)
    clear hW39 HS38
    clear p0
    exact ended_tok rfl rfl (HS39.out.get 0 rfl) ⟨⟨⟨6, s.extract 0 m⟩, rfl, PlainR.mk_ (by omega) (by omega) (fun h => by omega)⟩, HS39.out.below⟩
   have hu0i : ¬ (0 : Int) < (u : Int) := by omega
   clear hu0
   by_cases h34 : c = 34
   ·
    have e34 : ((c : Int) == 34) = true := by simp; omega
    clear h34
    go_wp2_with fail
    refine namedPost fun W40 hW40 => ?_
    have HS40 := onS hW40 (HS37.out.st2 0 rfl _ _)
    clear hW40 HS37
    clear p0
    exact ended_tok rfl rfl (HS40.out.get 0 rfl) ⟨⟨⟨7, s.extract 0 1⟩, rfl, PlainR.mk_ (by omega) (by omega) (fun h => by omega)⟩, HS40.out.below⟩
   have e34 : ((c : Int) == 34) = false := by simp; omega
   clear h34
   go_wp2_with fail
   refine (oper_b s _ hs).mono ?_
   rintro e w41 ⟨⟨m, rfl, hm⟩, hb41⟩
   have HS41 := hide (HS37.out.call hb41)
   clear hb41 HS37
   clear p0
   have p0 := rD HS41
   go_wp2_with fail
   refine namedPost fun W42 hW42 => ?_
   have HS42 := onS hW42 (HS41.out.st2 0 rfl _ _)
   clear hW42 HS41
   clear p0
   exact ended_tok rfl rfl (HS42.out.get 0 rfl) ⟨⟨⟨13, s.extract 0 m⟩, rfl, PlainR.mk_ (by omega) (by omega) (fun h => by omega)⟩, HS42.out.below⟩
  have e64 : ((c : Int) == 64) = false := by simp; omega
  clear h64
  go_wp2_with fail
  refine (number_b s _ hs).mono ?_
  rintro e w43 ⟨⟨u, rfl, hu⟩, hb43⟩
  have HS43 := hide (HS7.out.call hb43)
  clear hb43 HS7
  clear p0
  have p0 := rD HS43
  by_cases hu0 : 0 < u
  ·
   have hu0i : (0 : Int) < (u : Int) := by omega
   go_wp2_with fail
   refine (number_b s _ hs).mono ?_
   rintro e w44 ⟨⟨m, rfl, hm⟩, hb44⟩
   have HS44 := hide (HS43.out.call hb44)
   clear hb44 HS43
   clear p0
   have p0 := rD HS44
   go_wp2_with fail
   refine namedPost fun W45 hW45 => ?_
   have HS45 := onS hW45 (HS44.out.st2 0 rfl _ _)
   clear hW45 HS44
   clear p0
   exact ended_tok rfl rfl (HS45.out.get 0 rfl) ⟨⟨⟨6, s.extract 0 m⟩, rfl, PlainR.mk_ (by omega) (by omega) (fun h => by omega)⟩, HS45.out.below⟩
  have hu0i : ¬ (0 : Int) < (u : Int) := by omega
  clear hu0
  by_cases h34 : c = 34
  ·
   have e34 : ((c : Int) == 34) = true := by simp; omega
   clear h34
   go_wp2_with fail
   refine namedPost fun W46 hW46 => ?_
   have HS46 := onS hW46 (HS43.out.st2 0 rfl _ _)
   clear hW46 HS43
   clear p0
   exact ended_tok rfl rfl (HS46.out.get 0 rfl) ⟨⟨⟨7, s.extract 0 1⟩, rfl, PlainR.mk_ (by omega) (by omega) (fun h => by omega)⟩, HS46.out.below⟩
  have e34 : ((c : Int) == 34) = false := by simp; omega
  clear h34
  go_wp2_with fail
  refine (oper_b s _ hs).mono ?_
  rintro e w47 ⟨⟨m, rfl, hm⟩, hb47⟩
  have HS47 := hide (HS43.out.call hb47)
  clear hb47 HS43
  clear p0
  have p0 := rD HS47
  go_wp2_with fail
  refine namedPost fun W48 hW48 => ?_
  have HS48 := onS hW48 (HS47.out.st2 0 rfl _ _)
  clear hW48 HS47
  clear p0
  exact ended_tok rfl rfl (HS48.out.get 0 rfl) ⟨⟨⟨13, s.extract 0 m⟩, rfl, PlainR.mk_ (by omega) (by omega) (fun h => by omega)⟩, HS48.out.below⟩
end Go.Proofs.YtacgmmpdichlmaaGreat
