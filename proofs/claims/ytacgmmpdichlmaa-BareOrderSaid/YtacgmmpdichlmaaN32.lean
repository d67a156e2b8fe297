/-
  The reference's lexer outside of strings at a token of one byte, no bracket being open in a string: exactly. Its condition: a text has at most 65536 bytes.
  The reference's Tokens: of any text; and exactly, of a text whose tokens are one byte each. No condition.
  The reference's Items: what counts of tokens. Its condition: the tokens lie in a row of the caller's.
  The walk of the reference's Items. Its condition: the tokens lie in a row of the caller's; there are at most 65536.
  The end of a function that hands back a node and two numbers. No condition.
  The reference's Source at the two texts of the laws' example, exactly. No condition.
  slices.Clone at numbers; a path with one step more; the program's each. Its conditions: the slice reads as numbers, of which there are at most 900000.
-/
import Derived.Test.YtacgmmpdichlmaaN30
import Derived.Deep.QuietTactic
import Derived.BigQuiet
import Derived.Test.YtacgmmpdichlmaaN03
import Derived.Test.YtacgmmpdichlmaaN23
import Derived.Test.YtacgmmpdichlmaaN31
import Derived.Lib.IndexBytes
namespace Go.Proofs.Ytacgmmpdichlmaa
open Go.RowKit
attribute [local go_sem ↓] Go.wp_at_zero Go.wp_at_succ

set_option maxRecDepth 100000 in
set_option maxHeartbeats 4000000 in
theorem outside_ex {w w1 : World} {s : ByteArray} {p : Nat} {t : Tk} {l : List Tk} {tv : Value} (hb : Below w.heap.size w w1) (hs : s.size ≤ 65536) (hp : p < s.size) (hl : l.length ≤ p) (hT : TRow w.heap.size w1 tv l) (hz1 : t.text.size = 1) (hk : t.kind = 6 ∨ t.kind = 13)
    (hpl : ∀ W, Calls Try.prog 52 #[.string (s.extract p s.size)] W fun e w' => e = .returned (.agg #[.int .i64 t.kind, .string t.text]) ∧ Below W.heap.size W w') :
    Calls Try.prog 39 #[Lxv s p tv (.slice none 0 0) false 0] w1 fun r w' => (∃ a c p', r = .returned (Lxv s p' (.slice a (l.length + 1) c) (.slice none 0 0) false 0) ∧ p' = p + 1 ∧ TRow w.heap.size w' (.slice a (l.length + 1) c) (l ++ [t])) ∧ Kt w.heap.size w1 w' := by
  obtain ⟨a, c, rfl⟩ := hT.form
  unfold Lxv
  have HT := hide hT
  have HO := hide (ORow.nil w.heap.size w1)
  have HPL := hide hpl
  have HTZ := hide hz1
  have hsz := size_ext s p
  have hq0 : (0 : Int) < ((s.extract p s.size).size : Int) := by omega
  have hw1 := hb.size
  have HSa := hide (st_start hb)
  have HNbz0 := hide (Bz.start w w1)
  have he := isEmpty_no (s := t.text) (by omega)
  have hne := toList_ne (s := t.text) (by omega)
  have ek7 : (t.kind == 7) = false := by rcases hk with h | h <;> rw [h] <;> rfl
  clear hT hpl hz1 hsz hk hb
  go_enter Try.func39, Try.ntmps39
  go_wp2_with fail
  have lv1 := lV HSa
  refine named fun W1 hW1 => ?_
  have HS1 := onS hW1 HSa.out.va.va
  have HNbz1 := hide (Bz.onto hW1 ((HNbz0.out.var (g := w1.heap.size) (by simp) _).var (g := w1.heap.size + 1) (by simp) _))
  clear HNbz0
  clear hW1 HSa
  refine (HPL.out _).mono ?_
  rintro e w2 ⟨rfl, hb2⟩
  have HS2 := hide (HS1.out.call hb2)
  have HNbz2 := hide (HNbz1.out.call hb2)
  clear HNbz1
  clear hb2 HS1
  have p0 := rD HS2
  go_wp2_with fail
  have lv3 := lV HS2
  refine named fun W3 hW3 => ?_
  have HS3 := onS hW3 HS2.out.va
  have HNbz3 := hide (Bz.onto hW3 (HNbz2.out.var (g := w2.heap.size) (by simp) _))
  clear HNbz2
  clear hW3 HS2
  clear p0
  obtain ⟨p4, hpp4⟩ : ∃ p4, p + (t.text).size = p4 := ⟨_, rfl⟩
  obtain ⟨m4, hm4⟩ : ∃ m4, l.length + 1 = m4 := ⟨_, rfl⟩
  have HP4 := hide hpp4
  have HM4 := hide hm4
  clear hpp4 hm4
  refine (put_b (B := w.heap.size) (t := ⟨t.kind, t.text⟩) (HT.out.below HNbz3.out.1) HS3.out.below.size (by omega) (by omega) (by have h1 := HTZ.out; simp only; omega) ⟨_, _, _, rfl⟩ HP4.out HM4.out).mono ?_
  rintro e w4 ⟨⟨ta4, tc4, rfl, hT4⟩, hk4⟩
  have HNbz4 := hide (show Bz w w1 w4 [w1.heap.size, w1.heap.size + 1] _ () from HNbz3.out.put hw1 hk4 hT4 (HO.out.below HNbz3.out.1) (HS3.out.take 2) (by simp) (by simp))
  have HS4 := hide (show St w w4 [(w1.heap.size, 74, #[.string s, .int .i64 p, .slice a l.length c, .slice none 0 0, .bool false, .int .i64 0]), (w1.heap.size + 1, 74, #[.string ⟨#[]⟩, .int .i64 0, .slice none 0 0, .slice none 0 0, .bool false, .int .i64 0])] from St.kt (HS3.out.take 2) hk4 (by simp))
  clear hT4 hk4 HNbz3 HS3
  have p0 := rD HS4
  go_wp2_with fail
  refine namedPost fun W5 hW5 => ?_
  have HS5 := onS hW5 (HS4.out.st6 1 rfl _ _ _ _ _ _)
  have HNbz5 := hide (Bz.onto hW5 (HNbz4.out.st6 (by simp) _ _ _ _ _ _))
  clear HNbz4
  clear hW5 HS4
  clear p0
  have hm4 := HM4.out
  subst hm4
  exact ended_L rfl rfl (HS5.out.get 1 rfl) ⟨⟨_, _, _, rfl, by have h1 := HP4.out; have h2 := HTZ.out; omega, HNbz5.out.1⟩, HNbz5.out.2.2.1⟩
end Go.Proofs.Ytacgmmpdichlmaa
namespace Go.Proofs.Ytacgmmpdichlmaa
open Go.RowKit
attribute [local go_sem ↓] Go.wp_at_zero Go.wp_at_succ

/-- How far the lexer has still to go. -/
def lexLeft (n g : Nat) (w : World) : Nat :=
  match w.cell? ⟨g, 1, none⟩, w.cell? ⟨g, 5, none⟩ with
  | some (.int _ p), some (.int _ e) => if e = 0 then n - p.toNat + 1 else 0
  | _, _ => 0
theorem lexLeft_of {n g p : Nat} {w : World} {t : TypeId} {e : Int} {a b c d : Value} (h : Blk w g t #[a, .int .i64 p, b, c, d, .int .i64 e]) : lexLeft n g w = if e = 0 then n - p + 1 else 0 := by
  have h1 := h.cell 1
  have h2 := h.cell 5
  simp only [lexLeft, h1, h2]
  rfl
/-- What Tokens hands back. -/
def TokensP (w : World) (r : Ending) (w' : World) : Prop :=
  (∃ (v : Value) (l : List Tk) (e p : Int), r = .returned (.tuple #[v, .int .i64 e, .int .i64 p]) ∧ TRow w.heap.size w' v l ∧ l.length ≤ 65536 ∧ (∀ t ∈ l, t.ok)) ∧ Below w.heap.size w w'
theorem TokensP.err {w w' : World} (e p : Int) (hb : Below w.heap.size w w') : TokensP w (.returned (.tuple #[.slice none 0 0, .int .i64 e, .int .i64 p])) w' :=
  ⟨⟨_, [], e, p, rfl, World.ownsRow_nil _ _ _ _, by simp, by simp⟩, hb⟩
def lexV (g : Nat) (s : ByteArray) (p : Nat) (tv ov : Value) (inn : Bool) (e : Int) : List (Nat × TypeId × Array Value) := [(g, 74, #[.string s, .int .i64 p, tv, ov, .bool inn, .int .i64 e])]
/-- The loop's state. -/
def LexI (w : World) (g : Nat) (s : ByteArray) (p : Nat) (ta : Option Addr) (tc : Nat) (l : List Tk) (oa : Option Addr) (n oc : Nat) (inn : Bool) (e : Int) (W : World) : Prop :=
  St w W (lexV g s p (.slice ta l.length tc) (.slice oa n oc) inn e) ∧ TRow w.heap.size W (.slice ta l.length tc) l ∧ ORow w.heap.size W (.slice oa n oc) n ∧ (l.length ≤ p ∧ p ≤ s.size ∧ n ≤ 256) ∧ (∀ t ∈ l, t.ok)
theorem TRow.st6 {B g : Nat} {W : World} {v : Value} {l : List Tk} {a b c d e f : Value} (h : TRow B W v l) (hb : Blk W g 74 #[a, b, c, d, e, f]) (a' b' c' d' e' f' : Value) :
    TRow B ((((((W.setCell ⟨g, 0, none⟩ a').setCell ⟨g, 1, none⟩ b').setCell ⟨g, 2, none⟩ c').setCell ⟨g, 3, none⟩ d').setCell ⟨g, 4, none⟩ e').setCell ⟨g, 5, none⟩ f') v l := by
  have hne := own_blk_ne h hb (by decide)
  exact (((((World.ownsRow.setOther h hne 0 a').setOther hne 1 b').setOther hne 2 c').setOther hne 3 d').setOther hne 4 e').setOther hne 5 f'
theorem ORow.st6 {B g n : Nat} {W : World} {v : Value} {a b c d e f : Value} (h : ORow B W v n) (hb : Blk W g 74 #[a, b, c, d, e, f]) (a' b' c' d' e' f' : Value) :
    ORow B ((((((W.setCell ⟨g, 0, none⟩ a').setCell ⟨g, 1, none⟩ b').setCell ⟨g, 2, none⟩ c').setCell ⟨g, 3, none⟩ d').setCell ⟨g, 4, none⟩ e').setCell ⟨g, 5, none⟩ f') v n := by
  obtain ⟨zs, hz, ho⟩ := h
  have hne := own_blk_ne ho hb (by decide)
  exact ⟨zs, hz, (((((ho.setOther hne 0 a').setOther hne 1 b').setOther hne 2 c').setOther hne 3 d').setOther hne 4 e').setOther hne 5 f'⟩

set_option maxRecDepth 100000 in
set_option maxHeartbeats 4000000 in
theorem tokens_any (s : ByteArray) (w : World) : Calls Try.prog 24 #[.string s] w (TokensP w) := by
  by_cases hs : s.size ≤ 65536
  · have hsi : ¬ (65536 : Int) < (s.size : Int) := by omega
    go_enter Try.func24, Try.ntmps24
    go_wp2_with fail
    refine (check_any s w hs).mono ?_
    rintro e w1 ⟨⟨n, rfl, hn1, hn2⟩, hb1⟩
    by_cases hn0 : 0 ≤ n
    · go_wp2_with fail
      go_ret3
      exact TokensP.err _ _ hb1
    · have HS1 := hide ((St.nil w).call hb1)
      clear hb1
      go_wp2_with fail
      refine namedWp fun W1 hW1 => ?_
      have HS2 := hide (show St w W1 (lexV w1.heap.size s 0 (.slice none 0 0) (.slice none 0 0) false 0) from St.onto hW1 (HS1.out.var 74 _ (by simp)))
      clear hW1 HS1
      go_loopw [] (fun wr => ∃ (p : Nat) (ta : Option Addr) (tc : Nat) (l : List Tk) (oa : Option Addr) (n oc : Nat) (inn : Bool) (e : Int), LexI w w1.heap.size s p ta tc l oa n oc inn e wr) (fun wr => lexLeft s.size w1.heap.size wr)
      case atStart => exact ⟨0, none, 0, [], none, 0, 0, false, 0, HS2.out, World.ownsRow_nil _ _ _ _, ORow.nil _ _, by simp, by simp⟩
      case round =>
        obtain ⟨p, ta, tc, l, oa, n, oc, inn, e, hS, hT, hO, ⟨hl, hp, hn⟩, hok⟩ := hrel
        have hMp := lexLeft_of (n := s.size) (hS.get 0 rfl)
        have HS := hide hS
        have HT := hide hT
        have HO := hide hO
        have HOK := hide hok
        have HM := hide hMp
        have p0 := (hS.get 0 rfl).see6
        clear hS hT hO hok hMp HS2
        by_cases hlt : p < s.size ∧ e = 0
        · obtain ⟨hlt, rfl⟩ := hlt
          have hlti : (p : Int) < (s.size : Int) := by omega
          cases inn with
          | true =>
            go_wp2_with fail
            refine (inside_any HS.out.below hs hlt hl HOK.out hn HT.out HO.out).mono ?_
            rintro r w2 ⟨⟨v', p', l', n', inn', e', rfl, ⟨tv, ov, rfl, hT', hO', ⟨hl', hp', hn'⟩, hok'⟩, hpp⟩, hk⟩
            obtain ⟨a', c', rfl⟩ := hT'.form
            obtain ⟨b', d', rfl⟩ := hO'.form
            have HS' := hide (HS.out.kt hk (by simp [lexV]))
            have HT' := hide hT'
            have HO' := hide hO'
            have HOK' := hide hok'
            unfold Lxv
            clear hT' hO' hk hok' HS HT HO HOK p0
            have p0 := (HS'.out.get 0 rfl).see6
            go_wp2_with fail
            refine ⟨⟨p', a', c', l', b', n', d', inn', e', HS'.out.st6 0 rfl _ _ _ _ _ _, HT'.out.st6 (HS'.out.get 0 rfl) _ _ _ _ _ _, HO'.out.st6 (HS'.out.get 0 rfl) _ _ _ _ _ _, ⟨hl', hp', hn'⟩, HOK'.out⟩, ?_⟩
            rw [lexLeft_of ((HS'.out.st6 0 rfl _ _ _ _ _ _).get 0 rfl), HM.out]
            by_cases h0 : e' = 0
            · have := hpp h0; simp [h0]; omega
            · simp [h0]
          | false =>
            go_wp2_with fail
            refine (outside_any HS.out.below hs hlt hl HOK.out hn HT.out HO.out).mono ?_
            rintro r w2 ⟨⟨v', p', l', n', inn', e', rfl, ⟨tv, ov, rfl, hT', hO', ⟨hl', hp', hn'⟩, hok'⟩, hpp⟩, hk⟩
            obtain ⟨a', c', rfl⟩ := hT'.form
            obtain ⟨b', d', rfl⟩ := hO'.form
            have HS' := hide (HS.out.kt hk (by simp [lexV]))
            have HT' := hide hT'
            have HO' := hide hO'
            have HOK' := hide hok'
            unfold Lxv
            clear hT' hO' hk hok' HS HT HO HOK p0
            have p0 := (HS'.out.get 0 rfl).see6
            go_wp2_with fail
            refine ⟨⟨p', a', c', l', b', n', d', inn', e', HS'.out.st6 0 rfl _ _ _ _ _ _, HT'.out.st6 (HS'.out.get 0 rfl) _ _ _ _ _ _, HO'.out.st6 (HS'.out.get 0 rfl) _ _ _ _ _ _, ⟨hl', hp', hn'⟩, HOK'.out⟩, ?_⟩
            rw [lexLeft_of ((HS'.out.st6 0 rfl _ _ _ _ _ _).get 0 rfl), HM.out]
            by_cases h0 : e' = 0
            · have := hpp h0; simp [h0]; omega
            · simp [h0]
        · by_cases he : e = 0
          · subst he
            have hlti : ¬ (p : Int) < (s.size : Int) := by omega
            cases inn with
            | true =>
              go_wp2_with fail
              go_ret3
              exact TokensP.err _ _ HS.out.below
            | false =>
              by_cases hno : 0 < n
              · have hnoi : (0 : Int) < (n : Int) := by omega
                go_wp2_with fail
                go_ret3
                exact TokensP.err _ _ HS.out.below
              · have hnoi : ¬ (0 : Int) < (n : Int) := by omega
                go_wp2_with fail
                go_ret3
                exact ⟨⟨_, l, 0, 0, rfl, HT.out, by omega, HOK.out⟩, HS.out.below⟩
          · have hee : (e == 0) = false := by simpa using he
            have hen : (e != 0) = true := by simpa using he
            by_cases hlt2 : p < s.size
            · have hlti : (p : Int) < (s.size : Int) := by omega
              go_wp2_with fail
              go_quiet (fail)
              all_goals
                go_wp2_with fail
                go_ret3
                exact TokensP.err _ _ (below_drewN HS.out.below _)
            · have hlti : ¬ (p : Int) < (s.size : Int) := by omega
              go_wp2_with fail
              go_quiet (fail)
              all_goals
                go_wp2_with fail
                go_ret3
                exact TokensP.err _ _ (below_drewN HS.out.below _)
  · have hsi : (65536 : Int) < (s.size : Int) := by omega
    go_enter Try.func24, Try.ntmps24
    go_wp2_with fail
    go_ret3
    exact TokensP.err _ _ (Below.refl _ _)

set_option maxRecDepth 100000 in
set_option maxHeartbeats 4000000 in
/-- A text whose tokens are one byte each. -/
theorem tokens_ex (s : ByteArray) (w : World) (T : List Tk) (hs : s.size ≤ 65536) (hT : T.length = s.size) (ha : ∀ i (h : i < s.size), s[i].toNat < 128) (hz : ∀ t ∈ T, t.text.size = 1 ∧ (t.kind = 6 ∨ t.kind = 13))
    (hpl : ∀ (k : Nat) (h : k < T.length) (W : World), Calls Try.prog 52 #[.string (s.extract k s.size)] W fun e w' => e = .returned (.agg #[.int .i64 T[k].kind, .string T[k].text]) ∧ Below W.heap.size W w') :
    Calls Try.prog 24 #[.string s] w fun r w' => (∃ v, r = .returned (.tuple #[v, .int .i64 0, .int .i64 0]) ∧ TRow w.heap.size w' v T) ∧ Below w.heap.size w w' := by
  have hsi : ¬ (65536 : Int) < (s.size : Int) := by omega
  have HTL := hide hT
  have HA := hide ha
  have HZ := hide hz
  have HPL := hide hpl
  clear hT ha hz hpl
  go_enter Try.func24, Try.ntmps24
  go_wp2_with fail
  refine (check_ascii s w hs HA.out).mono ?_
  rintro e w1 ⟨rfl, hb1⟩
  have HS1 := hide ((St.nil w).call hb1)
  clear hb1
  go_wp2_with fail
  refine namedWp fun W1 hW1 => ?_
  have HS2 := hide (show St w W1 (lexV w1.heap.size s 0 (.slice none 0 0) (.slice none 0 0) false 0) from St.onto hW1 (HS1.out.var 74 _ (by simp)))
  clear hW1 HS1
  go_loopw [] (fun wr => ∃ (p : Nat) (ta : Option Addr) (tc : Nat), p ≤ s.size ∧ St w wr (lexV w1.heap.size s p (.slice ta p tc) (.slice none 0 0) false 0) ∧ TRow w.heap.size wr (.slice ta p tc) (T.take p)) (fun wr => lexLeft s.size w1.heap.size wr)
  case atStart => exact ⟨0, none, 0, Nat.zero_le _, HS2.out, World.ownsRow_nil _ _ _ _⟩
  case round =>
    obtain ⟨p, ta, tc, hp, hS, hT⟩ := hrel
    have hMp := lexLeft_of (n := s.size) (hS.get 0 rfl)
    have HS := hide hS
    have HT := hide hT
    have HM := hide hMp
    have p0 := (hS.get 0 rfl).see6
    clear hS hT hMp HS2
    by_cases hlt : p < s.size
    · have hlti : (p : Int) < (s.size : Int) := by omega
      have hpT : p < T.length := by rw [HTL.out]; exact hlt
      obtain ⟨hz1, hz2⟩ := HZ.out T[p] (List.getElem_mem hpT)
      have hlen : (T.take p).length = p := by rw [List.length_take]; omega
      have HL := hide hlen
      have HO := hide (outside_ex (l := T.take p) HS.out.below hs hlt (by rw [hlen]; exact Nat.le_refl _) HT.out hz1 hz2 (HPL.out p hpT))
      clear hz1 hz2 hlen
      go_wp2_with fail
      refine HO.out.mono ?_
      rintro r w2 ⟨⟨a', c', p', rfl, hpp, hT'⟩, hk⟩
      rw [HL.out] at hT' ⊢
      obtain ⟨p2, hp2⟩ : ∃ p2, p + 1 = p2 := ⟨_, rfl⟩
      rw [hp2] at hT' ⊢ hpp
      rw [hpp]
      have hT2 : T.take p ++ [T[p]] = T.take p2 := by rw [← hp2, List.take_succ_eq_append_getElem hpT]
      rw [hT2] at hT'
      have HS' := hide (HS.out.kt hk (by simp [lexV]))
      have HT' := hide hT'
      unfold Lxv
      clear hT' hk HS HT p0 HO hT2 hpp
      have HP2 := hide hp2
      clear hp2
      have p0 := (HS'.out.get 0 rfl).see6
      go_wp2_with fail
      refine ⟨⟨p2, a', c', by have := HP2.out; omega, HS'.out.st6 0 rfl _ _ _ _ _ _, HT'.out.st6 (HS'.out.get 0 rfl) _ _ _ _ _ _⟩, ?_⟩
      rw [lexLeft_of ((HS'.out.st6 0 rfl _ _ _ _ _ _).get 0 rfl), HM.out]
      have := HP2.out
      simp
      omega
    · have hlti : ¬ (p : Int) < (s.size : Int) := by omega
      have hpe : T.take p = T := List.take_of_length_le (by rw [HTL.out]; omega)
      have HT2 := hide (show TRow w.heap.size wr (.slice ta p tc) T from hpe ▸ HT.out)
      clear hpe
      go_wp2_with fail
      go_ret3
      exact ⟨⟨_, rfl, HT2.out⟩, HS.out.below⟩
end Go.Proofs.Ytacgmmpdichlmaa
namespace Go.Proofs.Ytacgmmpdichlmaa
open Go.RowKit
attribute [local go_sem ↓] Go.wp_at_zero Go.wp_at_succ

theorem infoItem : (Try.prog.info? 60).map (fun i => (i.zero, i.size, i.bytes)) = some (some (.agg #[.int .i64 0, .string ByteArray.empty, .int .i64 0, .slice none 0 0]), 4, 56) := by kernel_rfl
/-- A row of texts. -/
def SRow (B : Nat) (w : World) (v : Value) (n : Nat) : Prop := ∃ zs : List ByteArray, zs.length = n ∧ w.ownsRow B 9 1 v n (zs.map fun z => .string z)
theorem SRow.below {B n : Nat} {w W : World} {v : Value} (ho : SRow B w v n) (hb : Below w.heap.size w W) : SRow B W v n := by
  obtain ⟨zs, hz, ho⟩ := ho
  exact ⟨zs, hz, own_below ho hb⟩
theorem SRow.form {B n : Nat} {w : World} {v : Value} (ho : SRow B w v n) : ∃ a c, v = .slice a n c := by
  obtain ⟨zs, hz, ho⟩ := ho
  exact own_form ho
theorem SRow.nil (B : Nat) (w : World) : SRow B w (.slice none 0 0) 0 := ⟨[], rfl, World.ownsRow_nil _ _ _ _⟩
theorem SRow.mono {B B' n : Nat} {w : World} {v : Value} (h : SRow B' w v n) (hb : B ≤ B') : SRow B w v n := by
  obtain ⟨zs, hz, ho⟩ := h
  refine ⟨zs, hz, ho.1, ?_⟩
  rcases ho.2 with hn | ⟨g, cap, cur, hv, hb', rest⟩
  · exact .inl hn
  · exact .inr ⟨g, cap, cur, hv, Nat.le_trans hb hb', rest⟩
theorem str_copy {B n : Nat} {W : World} {v : Value} (h : SRow B W v n) (hn : n ≤ 900000) :
    ∃ a c w1, (Builtin.append_ #[47, 47] 47 #[.slice none 0 0, v]).run Try.prog W = .ok (.slice a n c) w1 ∧ SRow W.heap.size w1 (.slice a n c) n ∧ Below W.heap.size W w1 := by
  obtain ⟨zs, hz, ho⟩ := h
  rcases Nat.eq_zero_or_pos n with rfl | hp
  · obtain ⟨a, c, rfl⟩ := own_form ho
    exact ⟨none, 0, W, app_none Try.underlying47 infoStr (.slice none 0 0) a c W (World.ownsRow_nil W W.heap.size 9 1), SRow.nil _ _, Below.refl _ _⟩
  · rcases ho.2 with ⟨rfl, h0⟩ | ⟨g, cap, cur, rfl, hb, hg, rest⟩
    · omega
    · have hc : ∀ j u, (zs.map fun z => Value.string z)[j]? = some u → W.cell? ⟨g, 0 + j, none⟩ = some u := fun j u hu => by
        have hj := (List.getElem?_eq_some_iff.1 hu).1
        rw [List.length_map, hz] at hj
        rw [Nat.zero_add, ho.cellAt j (by omega), hu]
      obtain ⟨v', w', hr, hown, hgr, hblk⟩ := app_run (ty := 47) Try.underlying47 infoStr rfl (by decide) (by decide) (World.ownsRow_nil W W.heap.size 9 1) g 0 n cap (zs.map fun z => .string z) (by rw [List.length_map, hz]; omega) hc (by simp [Value.oneCell']) (by omega) hp (Nat.le_refl _)
      rw [Nat.zero_add, List.nil_append] at hown
      obtain ⟨a, c, rfl⟩ := own_form hown
      exact ⟨a, c, w', hr, ⟨zs, hz, hown⟩, (Below.refl _ W).grown hgr (Nat.le_refl _) (fun r hr => by simp [Value.ownBlock] at hr)⟩
theorem str_push {B n : Nat} {W : World} {v : Value} (x : ByteArray) (h : SRow B W v n) (hn : n ≤ 900000) (hB : B ≤ W.heap.size) :
    ∃ a c w1, (Builtin.append_ #[47, 47] 47 #[v, .slice (some ⟨W.heap.size, 0, none⟩) 1 1]).run Try.prog (W.alloc (.cells #[.string x] 9)) = .ok (.slice a (n + 1) c) w1 ∧ SRow B w1 (.slice a (n + 1) c) (n + 1) ∧ Below B W w1 ∧ W.grownBy w1 v.ownBlock := by
  obtain ⟨zs, hz, ho⟩ := h
  have hb := Blk.new W 9 #[.string x]
  obtain ⟨v', w', hr, hown, hgr, hblk⟩ := app_run (ty := 47) Try.underlying47 infoStr rfl (by decide) (by decide) (ho.alloc (.cells #[.string x] 9)) W.heap.size 0 1 1 [.string x] rfl (fun j u hu => by rw [Nat.zero_add, hb.cell j]; simpa using hu) (by simp [Value.oneCell']) (by omega) (by decide) (by simp; omega)
  obtain ⟨a, c, rfl⟩ := own_form hown
  refine ⟨a, c, w', hr, ⟨zs ++ [x], by simp [hz], by rw [List.map_append]; exact hown⟩, ((Below.refl B W).alloc hB _).grown hgr (by simp; omega) (fun r hr => (ho.lt r hr).1), ⟨hgr.os, hgr.tape, hgr.output, by have := hgr.size; simp at this; omega, fun k hk hne => (hgr.block k (by simp; omega) hne).trans (Below.heap_alloc W _ k hk)⟩⟩

/-- What counts. -/
def plainB (t : Tk) : Bool := t.kind != 1 && t.kind != 2
theorem plainItem_any (t : Tk) (w : World) : Calls Try.prog 40 #[.agg #[.int .i64 t.kind, .string t.text]] w fun e w' => e = .returned (.bool (plainB t)) ∧ Below w.heap.size w w' := by
  have hfa := fieldT0 t.kind t.text
  cases h1 : t.kind != 1 with
  | false =>
    have H1 := hide h1
    clear h1
    have h1 := H1.out
    go_enter Try.func40, Try.ntmps40
    go_wp2_with fail
    go_ret
    exact ⟨ret_bool (by rw [plainB, H1.out]; rfl), (Below.refl _ _).alloc (Nat.le_refl _) _⟩
  | true =>
    have H1 := hide h1
    go_enter Try.func40, Try.ntmps40
    go_wp2_with fail
    go_ret
    exact ⟨ret_bool (by rw [plainB, H1.out]; rfl), (Below.refl _ _).alloc (Nat.le_refl _) _⟩

/-- The row of items: each holds its token, and a place; the last one has the notes nv. -/
def IRow (B : Nat) (w : World) (v : Value) (T : List Tk) (nv : Value) : Prop :=
  ∃ xs, w.ownsRow B 60 4 v T.length xs ∧ (∀ k t, T[k]? = some t → xs[k * 4]? = some (.int .i64 t.kind) ∧ xs[k * 4 + 1]? = some (.string t.text) ∧ ∃ p : Int, xs[k * 4 + 2]? = some (.int .i64 p)) ∧ (∀ k, k + 1 = T.length → xs[k * 4 + 3]? = some nv)
theorem IRow.nil (B : Nat) (w : World) (nv : Value) : IRow B w (.slice none 0 0) [] nv := ⟨[], World.ownsRow_nil _ _ _ _, by simp, by simp⟩
theorem IRow.form {B : Nat} {w : World} {v nv : Value} {T : List Tk} (h : IRow B w v T nv) : ∃ a c, v = .slice a T.length c := by
  obtain ⟨xs, h1, _⟩ := h
  exact own_form h1
theorem IRow.below {B : Nat} {w W : World} {v nv : Value} {T : List Tk} (h : IRow B w v T nv) (hb : Below w.heap.size w W) : IRow B W v T nv := by
  obtain ⟨xs, h1, h2⟩ := h
  exact ⟨xs, own_below h1 hb, h2⟩
/-- An item more. -/
theorem IRow.snoc {B : Nat} {W : World} {v nv : Value} {T : List Tk} (h : IRow B W v T nv) (t : Tk) (p : Int) (hl : T.length ≤ 900000) (hB : B ≤ W.heap.size) :
    ∃ a c w1, (Builtin.append_ #[53, 53] 53 #[v, .slice (some ⟨W.heap.size, 0, none⟩) 1 1]).run Try.prog (W.alloc (.cells #[.int .i64 t.kind, .string t.text, .int .i64 p, .slice none 0 0] 60)) = .ok (.slice a (T.length + 1) c) w1 ∧ IRow B w1 (.slice a (T.length + 1) c) (T ++ [t]) (.slice none 0 0) ∧ Below B W w1 ∧ W.grownBy w1 v.ownBlock := by
  obtain ⟨xs, h1, h2, h3⟩ := h
  have hb := Blk.new W 60 #[.int .i64 t.kind, .string t.text, .int .i64 p, .slice none 0 0]
  obtain ⟨v', w', hr, hown, hgr, hblk⟩ := app_run (ty := 53) Try.underlying53 infoItem rfl (by decide) (by decide) (h1.alloc (.cells #[.int .i64 t.kind, .string t.text, .int .i64 p, .slice none 0 0] 60)) W.heap.size 0 1 1 [.int .i64 t.kind, .string t.text, .int .i64 p, .slice none 0 0] rfl (fun j u hu => by rw [Nat.zero_add, hb.cell j]; simpa using hu) (by simp [Value.oneCell']) (by omega) (by decide) (by simp; omega)
  obtain ⟨a, c, rfl⟩ := own_form hown
  have hx : xs.length = T.length * 4 := h1.1
  refine ⟨a, c, w', hr, ⟨xs ++ [.int .i64 t.kind, .string t.text, .int .i64 p, .slice none 0 0], by rw [List.length_append]; exact hown, fun k u hu => ?_, fun k hk => ?_⟩, ((Below.refl B W).alloc hB _).grown hgr (by simp; omega) (fun r hr => (h1.lt r hr).1), ⟨hgr.os, hgr.tape, hgr.output, by have := hgr.size; simp at this; omega, fun k hk hne => (hgr.block k (by simp; omega) hne).trans (Below.heap_alloc W _ k hk)⟩⟩
  · rcases Nat.lt_or_ge k T.length with hlt | hge
    · rw [List.getElem?_append_left hlt] at hu
      obtain ⟨q0, q1, p', q2⟩ := h2 k u hu
      exact ⟨by rw [List.getElem?_append_left (by omega)]; exact q0, by rw [List.getElem?_append_left (by omega)]; exact q1, p', by rw [List.getElem?_append_left (by omega)]; exact q2⟩
    · have hk : k = T.length := by
        have := (List.getElem?_eq_some_iff.1 hu).1
        simp at this
        omega
      subst hk
      obtain rfl : t = u := by simpa using hu
      exact ⟨by rw [List.getElem?_append_right (by omega), hx, Nat.sub_self]; rfl, by rw [List.getElem?_append_right (by omega), hx, show T.length * 4 + 1 - T.length * 4 = 1 by omega]; rfl, p, by rw [List.getElem?_append_right (by omega), hx, show T.length * 4 + 2 - T.length * 4 = 2 by omega]; rfl⟩
  · rw [List.length_append] at hk
    have hk : k = T.length := by simpa using hk
    subst hk
    rw [List.getElem?_append_right (by omega), hx, show T.length * 4 + 3 - T.length * 4 = 3 by omega]; rfl
/-- The last one's notes are turned. -/
theorem IRow.set {B g c n : Nat} {W : World} {nv nv' : Value} {T : List Tk} (h : IRow B W (.slice (some ⟨g, 0, none⟩) (n + 1) c) T nv) (hn : T.length = n + 1) : IRow B (W.setCell ⟨g, n * 4 + 3, none⟩ nv') (.slice (some ⟨g, 0, none⟩) (n + 1) c) T nv' := by
  obtain ⟨xs, h1, h2, h3⟩ := h
  have hx : xs.length = T.length * 4 := h1.1
  rw [hn] at h1
  refine ⟨xs.set (n * 4 + 3) nv', by rw [hn]; exact (h1.stored _ _).1, fun k u hu => ?_, fun k hk => ?_⟩
  · obtain ⟨q0, q1, p, q2⟩ := h2 k u hu
    exact ⟨by rw [List.getElem?_set_ne (by omega)]; exact q0, by rw [List.getElem?_set_ne (by omega)]; exact q1, p, by rw [List.getElem?_set_ne (by omega)]; exact q2⟩
  · obtain rfl : k = n := by omega
    rw [List.getElem?_set_self (by omega)]
theorem IRow.open_ {B n : Nat} {W : World} {v nv : Value} {T : List Tk} (h : IRow B W v T nv) (hn : T.length = n + 1) : ∃ g c, v = .slice (some ⟨g, 0, none⟩) (n + 1) c ∧ B ≤ g ∧ g < W.heap.size ∧ W.cell? ⟨g, n * 4 + 3, none⟩ = some nv ∧ W.frozen? ⟨g, n * 4 + 3, none⟩ = false := by
  obtain ⟨xs, h1, h2, h3⟩ := h
  rw [hn] at h1
  rcases h1.2 with ⟨_, hn⟩ | ⟨g, cap, cur, rfl, hb, hg, _⟩
  · omega
  · exact ⟨g, cap, rfl, hb, (Array.getElem?_eq_some_iff.1 hg).1, by rw [h1.cellAt _ (by omega)]; exact h3 n (by omega), h1.frozenAt _⟩
/-- As the parser reads them. -/
theorem IRow.its {B : Nat} {W : World} {v nv : Value} {T : List Tk} (h : IRow B W v T nv) (hl : T.length ≤ 65536) (hok : ∀ t ∈ T, t.ok) : ∃ a c, v = .slice a T.length c ∧ Its W a T ∧ (∀ k, k < T.length → ∃ b o, a = some ⟨b, o, none⟩ ∧ B ≤ b ∧ b < W.heap.size ∧ ∃ p : Int, W.cell? ⟨b, o + k * 4 + 2, none⟩ = some (.int .i64 p)) := by
  obtain ⟨xs, h1, h2, h3⟩ := h
  rcases h1.2 with ⟨rfl, hn⟩ | ⟨g, cap, cur, rfl, hb, hg, _⟩
  · have hT : T = [] := List.eq_nil_of_length_eq_zero hn
    subst hT
    exact ⟨none, 0, rfl, ⟨fun h => absurd rfl h, hl, hok⟩, fun k hk => by simp at hk⟩
  · refine ⟨_, cap, rfl, ⟨fun _ => ⟨g, 0, rfl, (Array.getElem?_eq_some_iff.1 hg).1, fun k t ht => ?_⟩, hl, hok⟩, fun k hk => ?_⟩
    · have hk := (List.getElem?_eq_some_iff.1 ht).1
      obtain ⟨q0, q1, _⟩ := h2 k t ht
      rw [Nat.zero_add]
      exact ⟨by rw [h1.cellAt _ (by omega)]; exact q0, by rw [h1.cellAt _ (by omega)]; exact q1⟩
    · obtain ⟨_, _, p, q2⟩ := h2 k _ (List.getElem?_eq_getElem hk)
      exact ⟨g, 0, rfl, hb, (Array.getElem?_eq_some_iff.1 hg).1, p, by rw [Nat.zero_add, h1.cellAt _ (by omega)]; exact q2⟩
/-- The tokens of a row. -/
theorem TRow.get {B : Nat} {w : World} {a : Option Addr} {m c : Nat} {l : List Tk} (h : TRow B w (.slice a m c) l) {k : Nat} (hk : k < l.length) : ∃ g, a = some ⟨g, 0, none⟩ ∧ g < w.heap.size ∧ w.cell? ⟨g, k * 2, none⟩ = some (.int .i64 l[k].kind) ∧ w.cell? ⟨g, k * 2 + 1, none⟩ = some (.string l[k].text) := by
  have h' : w.ownsRow B 58 2 (.slice a m c) l.length (l.flatMap tokC) := h
  rcases h'.2 with ⟨_, hn⟩ | ⟨g, cap, cur, hv, hb, hg, _⟩
  · omega
  · cases hv
    have hf := flatMap_get tokC 2 (fun _ => rfl) l k l[k]
    refine ⟨g, rfl, (Array.getElem?_eq_some_iff.1 hg).1, ?_, ?_⟩
    · have := hf 0 (List.getElem?_eq_getElem hk) (by omega)
      rw [h'.cellAt _ (by omega)]
      exact this
    · rw [h'.cellAt _ (by omega), hf 1 (List.getElem?_eq_getElem hk) (by omega)]; rfl
end Go.Proofs.Ytacgmmpdichlmaa
namespace Go.Proofs.Ytacgmmpdichlmaa
open Go.RowKit
attribute [local go_sem ↓] Go.wp_at_zero Go.wp_at_succ

theorem filter_take {l : List Tk} {q : Nat} (h : q < l.length) : (l.take (q + 1)).filter plainB = (l.take q).filter plainB ++ (if plainB l[q] then [l[q]] else []) := by
  rw [List.take_succ_eq_append_getElem h, List.filter_append]
  congr 1
  rw [List.filter_cons]
  rfl
theorem filter_len (l : List Tk) (q : Nat) : ((l.take q).filter plainB).length ≤ q := Nat.le_trans (List.length_filter_le _ _) (by rw [List.length_take]; omega)
/-- The loop's state. -/
structure ItI (w : World) (q : Nat) (la : Option Addr) (n lc : Nat) (oa : Option Addr) (oc : Nat) (T : List Tk) (m : Nat) (nv : Value) (W : World) : Prop where
  lead : SRow w.heap.size W (.slice la n lc) n
  out : IRow w.heap.size W (.slice oa T.length oc) T nv
  notes : SRow w.heap.size W nv m
  n : n ≤ q
  m : m ≤ q
  t : T.length ≤ q
  below : Below w.heap.size w W
theorem ItI.next {w W W' : World} {q n lc oc m : Nat} {la oa : Option Addr} {T : List Tk} {nv : Value} (h : ItI w q la n lc oa oc T m nv W) (e : W' = W) : ItI w (q + 1) la n lc oa oc T m nv W' := by
  subst e
  exact ⟨h.lead, h.out, h.notes, by have := h.n; omega, by have := h.m; omega, by have := h.t; omega, h.below⟩
theorem ItI.call {w W W' : World} {q n lc oc m : Nat} {la oa : Option Addr} {T : List Tk} {nv : Value} (h : ItI w q la n lc oa oc T m nv W) (hb : Below W.heap.size W W') : ItI w q la n lc oa oc T m nv W' :=
  ⟨h.lead.below hb, h.out.below hb, h.notes.below hb, h.n, h.m, h.t, bl_call h.below hb⟩
/-- The other rows stay as append turns a row of another type. -/
theorem SRow.grown {B n : Nat} {W W' : World} {v : Value} {r : Option Nat} (h : SRow B W v n) (hg : W.grownBy W' r) (hne : v.ownBlock = none ∨ v.ownBlock ≠ r) : SRow B W' v n := by
  obtain ⟨zs, hz, ho⟩ := h
  exact ⟨zs, hz, ho.kept hg hne⟩
theorem own_ne {B n n' s s' : Nat} {W : World} {e e' : TypeId} {v v' : Value} {xs xs' : List Value} (h : W.ownsRow B e s v n xs) (h' : W.ownsRow B e' s' v' n' xs') (hne : e ≠ e') : v.ownBlock = none ∨ v.ownBlock ≠ v'.ownBlock := by
  rcases h.2 with ⟨rfl, _⟩ | ⟨g, cap, cur, rfl, _, hg, _⟩
  · exact Or.inl rfl
  · refine Or.inr fun e1 => ?_
    rcases h'.2 with ⟨rfl, _⟩ | ⟨g', cap', cur', rfl, _, hg', _⟩
    · simp [Value.ownBlock] at e1
    · simp only [Value.ownBlock, Option.some.injEq] at e1
      subst e1
      rw [hg] at hg'
      injection hg' with hg'
      injection hg' with _ h2
      exact hne h2
theorem IRow.grown {B : Nat} {W W' : World} {v nv : Value} {T : List Tk} {r : Option Nat} (h : IRow B W v T nv) (hg : W.grownBy W' r) (hne : v.ownBlock = none ∨ v.ownBlock ≠ r) : IRow B W' v T nv := by
  obtain ⟨xs, h1, h2⟩ := h
  exact ⟨xs, h1.kept hg hne, h2⟩
theorem ItI.snoc {w W : World} {q n lc oc m : Nat} {la oa : Option Addr} {T : List Tk} {nv : Value} (h : ItI w q la n lc oa oc T m nv W) (t : Tk) (p : Int) (hq : q ≤ 65536) :
    ∃ a c w1, (Builtin.append_ #[53, 53] 53 #[.slice oa T.length oc, .slice (some ⟨W.heap.size, 0, none⟩) 1 1]).run Try.prog (W.alloc (.cells #[.int .i64 t.kind, .string t.text, .int .i64 p, .slice none 0 0] 60)) = .ok (.slice a (T.length + 1) c) w1 ∧ ItI w (q + 1) la n lc a c (T ++ [t]) 0 (.slice none 0 0) w1 := by
  obtain ⟨a, c, w1, hr, h1, hb, hg⟩ := h.out.snoc t p (by have := h.t; omega) h.below.size
  obtain ⟨xs, ho, _⟩ := h.out
  obtain ⟨zs, hz, hl⟩ := h.lead
  exact ⟨a, c, w1, hr, ⟨⟨zs, hz, hl.kept hg (own_ne hl ho (by decide))⟩, by rw [List.length_append]; exact h1, SRow.nil _ _, by have := h.n; omega, by omega, by rw [List.length_append]; have := h.t; simp; omega, h.below.trans hb⟩⟩
theorem ItI.lead_ {w W : World} {q n lc oc m : Nat} {la oa : Option Addr} {T : List Tk} {nv : Value} (h : ItI w q la n lc oa oc T m nv W) (x : ByteArray) (hq : q ≤ 65536) (hT : T = []) :
    ∃ a c w1, (Builtin.append_ #[47, 47] 47 #[.slice la n lc, .slice (some ⟨W.heap.size, 0, none⟩) 1 1]).run Try.prog (W.alloc (.cells #[.string x] 9)) = .ok (.slice a (n + 1) c) w1 ∧ ItI w (q + 1) a (n + 1) c oa oc T 0 (.slice none 0 0) w1 := by
  obtain ⟨a, c, w1, hr, h1, hb, hg⟩ := str_push x h.lead (by have := h.n; omega) h.below.size
  obtain ⟨xs, ho, ho2, ho3⟩ := h.out
  obtain ⟨zs, hz, hl⟩ := h.lead
  subst hT
  exact ⟨a, c, w1, hr, ⟨h1, ⟨xs, ho.kept hg (own_ne ho hl (by decide)), ho2, by simp⟩, SRow.nil _ _, by have := h.n; omega, by omega, by simp, h.below.trans hb⟩⟩
/-- Notes more: what is known ahead of the store. -/
theorem ItI.note {w W : World} {q n lc oc m k : Nat} {la oa : Option Addr} {T : List Tk} {nv : Value} (h : ItI w q la n lc oa oc T m nv W) (x : ByteArray) (hq : q ≤ 65536) (hT : T.length = k + 1) :
    ∃ a c w1 a2 c2 w2 g, (Builtin.append_ #[47, 47] 47 #[.slice none 0 0, nv]).run Try.prog W = .ok (.slice a m c) w1 ∧
      (Builtin.append_ #[47, 47] 47 #[.slice a m c, .slice (some ⟨w1.heap.size, 0, none⟩) 1 1]).run Try.prog (w1.alloc (.cells #[.string x] 9)) = .ok (.slice a2 (m + 1) c2) w2 ∧ oa = some ⟨g, 0, none⟩ ∧ W.cell? ⟨g, k * 4 + 3, none⟩ = some nv ∧ Below W.heap.size W w1 ∧ Below W.heap.size W w2 ∧
      w2.cell? ⟨g, k * 4 + 3, none⟩ = some nv ∧ w2.frozen? ⟨g, k * 4 + 3, none⟩ = false ∧ ItI w (q + 1) la n lc oa oc T (m + 1) (.slice a2 (m + 1) c2) (w2.setCell ⟨g, k * 4 + 3, none⟩ (.slice a2 (m + 1) c2)) := by
  obtain ⟨a, c, w1, hr, h1, hb⟩ := str_copy h.notes (by have := h.m; omega)
  obtain ⟨a2, c2, w2, hr2, h2, hb2, _⟩ := str_push x h1 (by have := h.m; omega) hb.size
  obtain ⟨g, oc', hv, hgB, hgl, hc, hf⟩ := h.out.open_ hT
  rw [hT] at hv
  cases hv
  have hB2 : Below W.heap.size W w2 := hb.trans hb2
  have ho := h.out.below hB2
  rw [hT] at ho
  have hs2 := h2.mono h.below.size
  obtain ⟨xs, hx, _⟩ := ho
  obtain ⟨zs, hz, hl⟩ := h.lead.below hB2
  obtain ⟨zs2, hz2, hl2⟩ := hs2
  have hne : ∀ {v' : Value} {n' : Nat} {xs' : List Value}, w2.ownsRow w.heap.size 9 1 v' n' xs' → v'.ownBlock ≠ some g := fun h' => by
    rcases own_ne h' hx (by decide) with h3 | h3
    · rw [h3]; simp
    · exact h3
  refine ⟨a, c, w1, a2, c2, w2, g, hr, hr2, rfl, hc, hb, hB2, (hB2.cell (p := ⟨g, k * 4 + 3, none⟩) hgl).trans hc, (hB2.frozen (p := ⟨g, k * 4 + 3, none⟩) hgl).trans hf, ⟨⟨zs, hz, hl.setOther (hne hl) _ _⟩, ?_, ⟨zs2, hz2, hl2.setOther (hne hl2) _ _⟩, by have := h.n; omega, by have := h.m; omega, by have := h.t; omega, bl_st (bl_call h.below hB2) hgB _ _⟩⟩
  have := (h.out.below hB2)
  rw [hT] at this ⊢
  exact this.set hT
/-- What Items hands back. -/
def ItemsP (w : World) (l : List Tk) (r : Ending) (w' : World) : Prop :=
  (∃ (u : Value) (a : Option Addr) (c : Nat), r = .returned (.tuple #[u, .slice a (l.filter plainB).length c]) ∧ Its w' a (l.filter plainB) ∧ (∀ k, k < (l.filter plainB).length → ∃ b o, a = some ⟨b, o, none⟩ ∧ w.heap.size ≤ b ∧ b < w'.heap.size ∧ ∃ p : Int, w'.cell? ⟨b, o + k * 4 + 2, none⟩ = some (.int .i64 p))) ∧ Below w.heap.size w w'

set_option maxRecDepth 100000 in
set_option maxHeartbeats 8000000 in
theorem items_any {B : Nat} {w : World} {a : Option Addr} {c : Nat} {l : List Tk} (hT : TRow B w (.slice a l.length c) l) (hl : l.length ≤ 65536) (hok : ∀ t ∈ l, t.ok) : Calls Try.prog 25 #[.slice a l.length c] w (ItemsP w l) := by
  have HT := hide hT
  have HOK := hide hok
  clear hT hok
  go_enter Try.func25, Try.ntmps25
  go_wp2_with fail
  go_loopw [4, 5, 6, 7] (fun lv ov pv iv wr => ∃ (q p : Nat) (la : Option Addr) (n lc : Nat) (oa : Option Addr) (oc m k : Nat) (nv : Value), lv = .slice la n lc ∧ ov = .slice oa k oc ∧ pv = .int .i64 p ∧ iv = .int .i64 q ∧ q ≤ l.length ∧ p ≤ q * 65536 ∧ ((l.take q).filter plainB).length = k ∧ ItI w q la n lc oa oc ((l.take q).filter plainB) m nv wr) (fun _ _ _ iv _ => l.length - (intOf iv).toNat)
  case atStart => exact ⟨0, 0, none, 0, 0, none, 0, 0, 0, .slice none 0 0, rfl, rfl, rfl, rfl, Nat.zero_le _, by omega, rfl, ⟨SRow.nil _ _, IRow.nil _ _ _, SRow.nil _ _, by omega, by omega, by simp, Below.refl _ _⟩⟩
  case round =>
    obtain ⟨q, p, la, n, lc, oa, oc, m, k, nv, rfl, rfl, rfl, rfl, hq, hp, hk, hI⟩ := hrel
    have HI := hide hI
    have HK := hide hk
    by_cases hlt : q < l.length
    · have hlti : (q : Int) < (l.length : Int) := by omega
      obtain ⟨g, rfl, hg, c0, c1⟩ := HT.out.get hlt
      have d0 := (hI.below.cell (p := ⟨g, q * 2, none⟩) hg).trans c0
      have d1 := (hI.below.cell (p := ⟨g, q * 2 + 1, none⟩) hg).trans c1
      have htk := HOK.out l[q] (List.getElem_mem hlt)
      have hft := filter_take hlt
      have hkq : k ≤ q := by have := hI.t; omega
      obtain ⟨t, ht⟩ : ∃ t, l[q] = t := ⟨_, rfl⟩
      rw [ht] at d0 d1 c0 c1 htk hft
      have C0 := hide c0
      have C1 := hide c1
      have HFT := hide hft
      have hts : t.text.size ≤ 65536 := htk.2.1
      have hfa := fieldT0 t.kind t.text
      clear hI hk ht htk hft c0 c1
      go_wp2_with fail
      refine (plainItem_any t wr).mono ?_
      rintro r w2 ⟨rfl, hb2⟩
      have HI2 := hide (HI.out.call hb2)
      replace d0 := (hb2.cell (p := ⟨g, q * 2, none⟩) (Nat.lt_of_lt_of_le hg HI.out.below.size)).trans d0
      replace d1 := (hb2.cell (p := ⟨g, q * 2 + 1, none⟩) (Nat.lt_of_lt_of_le hg HI.out.below.size)).trans d1
      clear hb2 HI
      by_cases hpl : plainB t = true
      · have e2 : (t.kind == 2) = false := by
          rw [plainB, Bool.and_eq_true] at hpl
          have := hpl.2
          simpa using this
        rw [hpl]
        have HPL := hide hpl
        obtain ⟨a2, c2, w3, hr3, hI3⟩ := HI2.out.snoc t p (by omega)
        have HI3 := hide hI3
        rw [HK.out] at hr3
        have f0 := (hI3.below.cell (p := ⟨g, q * 2, none⟩) hg).trans C0.out
        have f1 := (hI3.below.cell (p := ⟨g, q * 2 + 1, none⟩) hg).trans C1.out
        clear hI3 hpl
        go_wp2_with (first | (at_builtin; refine wpList_app rfl _ _ (by rfl) (by rfl) (by rfl) (by rfl) hr3 ?_) | (refine stopAt 32 ?_))
        refine ⟨?_⟩
        clear hr3 d0 d1 HI2
        go_wp2_with fail
        go_roundw
        case rel =>
          have hh := HFT.out
          rw [HPL.out, if_pos rfl] at hh
          have h3 := HI3.out
          rw [← hh] at h3
          have hkk : ((l.take (q + 1)).filter plainB).length = k + 1 := by rw [hh, List.length_append, HK.out]; rfl
          exact ⟨q + 1, p + t.text.size, _, _, _, _, _, _, k + 1, _, rfl, rfl, by go_num, by go_num, by omega, by omega, hkk, h3⟩
        case measure => simp [intOf]; omega
      · have hpf : plainB t = false := by simpa using hpl
        rw [hpf]
        have hsame : (l.take (q + 1)).filter plainB = (l.take q).filter plainB := by rw [HFT.out, hpf, if_neg (by simp), List.append_nil]
        have HSM := hide hsame
        clear hpl hpf hsame
        by_cases h2 : t.kind = 2
        · have e2 : (t.kind == 2) = true := by simpa using h2
          clear h2
          by_cases hk0 : k = 0
          · subst hk0
            obtain ⟨a2, c2, w3, hr3, hI3⟩ := HI2.out.lead_ t.text (by omega) (List.eq_nil_of_length_eq_zero HK.out)
            have HI3 := hide hI3
            have f0 := (hI3.below.cell (p := ⟨g, q * 2, none⟩) hg).trans C0.out
            have f1 := (hI3.below.cell (p := ⟨g, q * 2 + 1, none⟩) hg).trans C1.out
            clear hI3
            go_wp2_with (first | (at_builtin; refine wpList_app rfl _ _ (by rfl) (by rfl) (by rfl) (by rfl) hr3 ?_) | (refine stopAt 51 ?_))
            refine ⟨?_⟩
            clear hr3 d0 d1 HI2
            go_wp2_with fail
            go_roundw
            case rel =>
              have h3 := HI3.out
              rw [← HSM.out] at h3
              exact ⟨q + 1, p + t.text.size, _, _, _, _, _, _, 0, _, rfl, rfl, by go_num, by go_num, by omega, by omega, by rw [HSM.out]; exact HK.out, h3⟩
            case measure => simp [intOf]; omega
          · obtain ⟨k1, rfl⟩ : ∃ k1, k = k1 + 1 := ⟨k - 1, by omega⟩
            have hkb : ((k1 : Int) + 1 == 0) = false := by simp; omega
            have hkc : (0 : Int) < (k1 : Int) + 1 := by omega
            have hk1 : k1 ≤ 65536 := by omega
            obtain ⟨a2, c2, w3, a4, c4, w4, go, hr3, hr4, rfl, hcn, hb3, hb4, hcn4, hfn4, hI5⟩ := HI2.out.note t.text (by omega) HK.out
            obtain ⟨na, nc, rfl⟩ := HI2.out.notes.form
            have HI5 := hide hI5
            have hgs : g < w2.heap.size := Nat.lt_of_lt_of_le hg HI2.out.below.size
            have d3 := (hb3.cell (p := ⟨g, q * 2 + 1, none⟩) hgs).trans d1
            have d4 := (hb4.cell (p := ⟨g, q * 2 + 1, none⟩) hgs).trans d1
            have f1 := (hI5.below.cell (p := ⟨g, q * 2 + 1, none⟩) hg).trans C1.out
            clear hI5 hb3 hb4
            go_wp2_with (first | (at_builtin; refine wpList_app rfl _ _ (by rfl) (by rfl) (by rfl) (by rfl) hr3 ?_) | (refine stopAt 73 ?_))
            refine ⟨?_⟩
            clear hr3
            go_wp2_with (first | (at_builtin; refine wpList_app rfl _ _ (by rfl) (by rfl) (by rfl) (by rfl) hr4 ?_) | (refine stopAt 81 ?_))
            refine ⟨?_⟩
            clear hr4 d0 d1 d3 HI2 hcn
            go_wp2_with fail
            go_roundw
            case rel =>
              have h3 := HI5.out
              rw [← HSM.out] at h3
              exact ⟨q + 1, p + t.text.size, _, _, _, _, _, _, k1 + 1, _, rfl, rfl, by go_num, by go_num, by omega, by omega, by rw [HSM.out]; exact HK.out, h3⟩
            case measure => simp [intOf]; omega
        · have e2 : (t.kind == 2) = false := by simpa using h2
          clear h2
          go_wp2_with fail
          go_roundw
          case rel =>
            have h3 := HI2.out.next rfl
            rw [← HSM.out] at h3
            exact ⟨q + 1, p + t.text.size, _, _, _, _, _, _, k, _, rfl, rfl, by go_num, by go_num, by omega, by omega, by rw [HSM.out]; exact HK.out, h3⟩
          case measure => simp [intOf]; omega
    · have hlti : ¬ (q : Int) < (l.length : Int) := by omega
      have he : (l.take q).filter plainB = l.filter plainB := by rw [List.take_of_length_le (by omega)]
      clear hI hk
      go_wp2_with fail
      go_ret2
      have hI := HI.out
      have hk := HK.out
      rw [he] at hI hk
      subst hk
      obtain ⟨a', c', hv, hits, hpl⟩ := hI.out.its (by have := hI.t; omega) (fun t ht => HOK.out t ((List.mem_filter.1 ht).1))
      cases hv
      exact ⟨⟨_, _, _, rfl, hits, hpl⟩, hI.below⟩
end Go.Proofs.Ytacgmmpdichlmaa
namespace Go.Proofs.Ytacgmmpdichlmaa
open Go.RowKit
attribute [local go_sem ↓] Go.wp_at_zero Go.wp_at_succ

theorem ended_nii {fn : Func} {p q r : Tmp} {tmps : Array Value} {W : World} {R : Ending → World → Prop} {g : Nat} {x0 x1 x2 y z : Value} (hr : fn.results = #[.cell p 25, .tmp q, .tmp r]) (hp : tmps.getD p undef = .pointer (some ⟨g, 0, none⟩)) (hq : tmps.getD q undef = y) (hz : tmps.getD r undef = z)
    (h0 : Blk W g 25 #[x0, x1, x2]) (hd : R (.returned (.tuple #[.agg #[x0, x1, x2], y, z])) W) : bodyPost Try.prog fn R .ret { tmps := tmps, defers := [] } W := by
  refine bodyPost_ret (v := .tuple #[.agg #[x0, x1, x2], y, z]) ?_ rfl hd
  have e0 := run_loadVar_row (P := Try.prog) W g 25 25 _ (0, 0) _ h0 Try.underlying25 rfl (by kernel_rfl)
  simp only [Array.getD_eq_getD_getElem?] at hp hq hz
  simp [results, hr, hp, hq, hz, asAddr, e0]
end Go.Proofs.Ytacgmmpdichlmaa
namespace Go.Proofs.Ytacgmmpdichlmaa
open Go.RowKit
attribute [local go_sem ↓] Go.wp_at_zero Go.wp_at_succ

/-- A node, and no error. -/
def SE (w : World) (d : Nd) (r : Ending) (w' : World) : Prop :=
  (∃ (k : Int) (s : ByteArray) (y : Option Addr) (m c : Nat), r = .returned (.tuple #[.agg #[.int .i64 k, .string s, .slice y m c], .int .i64 0, .int .i64 0]) ∧
    IsNd w' (New w.heap.size w') d (.agg #[.int .i64 k, .string s, .slice y m c])) ∧ Below w.heap.size w w'
set_option maxRecDepth 4000 in
set_option maxHeartbeats 4000000 in
theorem prog_ex {l : List Tk} {a : Option Addr} {cap : Nat} {d : Nd} {w : World} (hi : Its w a l) (h256 : l.length ≤ 256) (hp : ∀ ⦃w : World⦄, Its w a l → Calls Try.prog 42 #[.agg #[.slice a l.length cap, .int .i64 0, .bool false]] w (PE l a cap w l.length d)) :
    Calls Try.prog 26 #[.slice a l.length cap] w (SE w d) := by
  have HP := hide hp
  clear hp
  go_enter Try.func26, Try.ntmps26
  go_wp2_with fail
  refine named fun W1 hW1 => ?_
  have HS1 := onS hW1 (St.nil w).va
  clear hW1
  refine (deep_any (hi.below HS1.out.below)).mono ?_
  rintro e w2 ⟨⟨z, rfl, -, -, hz3⟩, hb2⟩
  have HS2 := hide (HS1.out.call hb2)
  clear hb2 HS1
  have p0 := rD HS2
  obtain rfl := hz3 h256
  go_wp2_with fail
  refine (HP.out (hi.below HS2.out.below)).mono ?_
  rintro e w3 ⟨⟨k3, s3, y3, m3, c3, rfl, hn3⟩, hb3⟩
  have HS3 := hide (HS2.out.call hb3)
  have HNn3 := hide (show Nx w w3 [w.heap.size] _ _ from Nx.made hn3 HS2.out)
  clear hn3 hb3 HS2
  clear p0
  have p0 := rD HS3
  go_wp2_with fail
  have lv4 := lV HS3
  refine namedPost fun W4 hW4 => ?_
  have HS4 := onS hW4 (HS3.out.st3 0 rfl _ _ _).va.va
  have HNr4 := hide (Nx.onto hW4 (((HNn3.out.st3 (by simp) _ _ _).var (g := w3.heap.size) (by simp) _).var (g := w3.heap.size + 1) (by simp) _))
  clear HNn3
  clear hW4 HS3
  clear p0
  exact ended_nii rfl rfl rfl rfl (HS4.out.get 0 rfl) ⟨⟨_, _, _, _, _, rfl, HNr4.out.out⟩, HS4.out.below⟩

set_option maxRecDepth 4000 in
set_option maxHeartbeats 4000000 in
theorem source_ex (s : ByteArray) (w : World) (T : List Tk) (d : Nd) (hs : s.size ≤ 256) (hT : T.length = s.size) (ha : ∀ i (h : i < s.size), s[i].toNat < 128) (hz : ∀ t ∈ T, t.text.size = 1 ∧ (t.kind = 6 ∨ t.kind = 13))
    (hpl : ∀ (k : Nat) (h : k < T.length) (W : World), Calls Try.prog 52 #[.string (s.extract k s.size)] W fun e w' => e = .returned (.agg #[.int .i64 T[k].kind, .string T[k].text]) ∧ Below W.heap.size W w')
    (hp : ∀ (a : Option Addr) (cap : Nat) ⦃w : World⦄, Its w a T → Calls Try.prog 42 #[.agg #[.slice a T.length cap, .int .i64 0, .bool false]] w (PE T a cap w T.length d)) :
    Calls Try.prog 13 #[.string s] w (SE w d) := by
  have hfl : T.filter plainB = T := List.filter_eq_self.2 fun t ht => by
    rcases (hz t ht).2 with h | h <;> simp [plainB, h]
  have hok : ∀ t ∈ T, t.ok := fun t ht => by
    obtain ⟨h1, h2⟩ := hz t ht
    exact ⟨by omega, by omega, fun _ => by omega⟩
  have HTOK := hide (fun w => tokens_ex s w T (by omega) hT ha hz hpl)
  have HFL := hide hfl
  have HOK := hide hok
  have HTL := hide hT
  have HP := hide hp
  clear hfl hok ha hz hpl hp hT
  go_enter Try.func13, Try.ntmps13
  go_wp2_with fail
  refine named fun W1 hW1 => ?_
  have HS1 := onS hW1 (St.nil w).va
  clear hW1
  refine (HTOK.out _).mono ?_
  rintro e w2 ⟨⟨v, rfl, hT⟩, hb2⟩
  have HS2 := hide (HS1.out.call hb2)
  clear hb2 HS1
  obtain ⟨va, vc, rfl⟩ := hT.form
  have HT := hide hT
  clear hT
  have p0 := rD HS2
  go_wp2_with fail
  refine (items_any HT.out (by rw [HTL.out]; omega) HOK.out).mono ?_
  rintro e w3 ⟨⟨u, ia, ic, rfl, hits, -⟩, hb3⟩
  have HS3 := hide (HS2.out.call hb3)
  clear hb3 HS2
  clear p0
  rw [HFL.out] at hits ⊢
  have HIT := hide hits
  clear hits HT HOK
  have p0 := rD HS3
  go_wp2_with fail
  refine (prog_ex HIT.out (by rw [HTL.out]; omega) (fun _ h => HP.out ia ic h)).mono ?_
  rintro r w4 ⟨⟨k4, s4, y4, m4, c4, rfl, hn4⟩, hb4⟩
  have HS4 := hide (HS3.out.call hb4)
  have HNn4 := hide (show Nx w w4 [w.heap.size] _ _ from Nx.made hn4 HS3.out)
  clear hn4 hb4 HS3
  clear p0
  have p0 := rD HS4
  go_wp2_with fail
  have lv5 := lV HS4
  refine namedPost fun W5 hW5 => ?_
  have HS5 := onS hW5 (HS4.out.st3 0 rfl _ _ _).va
  have HNr5 := hide (Nx.onto hW5 ((HNn4.out.st3 (by simp) _ _ _).var (g := w4.heap.size) (by simp) _))
  clear HNn4
  clear hW5 HS4
  clear p0
  exact ended_nii rfl rfl rfl rfl (HS5.out.get 0 rfl) ⟨⟨_, _, _, _, _, rfl, HNr5.out.out⟩, HS5.out.below⟩

section
variable {l : List Tk} {a : Option Addr} {cap : Nat}
/-- A term alone is a pipe. -/
theorem pipe_of {i j : Nat} {d : Nd} (hlt : i < l.length) (hf : Fst (tokAt l i false)) (hg : Lst (tokAt l j false)) (ht : ∀ ⦃w : World⦄, Its w a l → Calls Try.prog 96 #[.agg #[.slice a l.length cap, .int .i64 i, .bool false]] w (PE l a cap w j d)) :
    ∀ ⦃w : World⦄, Its w a l → Calls Try.prog 56 #[.agg #[.slice a l.length cap, .int .i64 i, .bool false]] w (PE l a cap w j d) := fun _ h1 =>
  pipe_ex h1 hlt fun _ h2 => exp_ex h2 hlt (fun _ h3 => operand_ex h3 hlt (fun _ h4 => post_ex h4 hlt ht hg) hf hg) hg
theorem fst_num {s : ByteArray} : Fst ⟨6, s⟩ := ⟨Or.inl rfl, fun h => by cases h⟩
theorem fst_opn : Fst ⟨13, ⟨#[40]⟩⟩ := ⟨Or.inr rfl, fun _ => rfl⟩
theorem lst_cls : Lst ⟨13, ⟨#[41]⟩⟩ := ⟨Or.inr rfl, fun _ => rfl⟩
theorem lst_no : Lst Tk.no := ⟨Or.inl rfl, fun h => by cases h⟩
end
def tok1 : List Tk := [⟨6, ⟨#[49]⟩⟩]
def tok5 : List Tk := [⟨13, ⟨#[40]⟩⟩, ⟨13, ⟨#[40]⟩⟩, ⟨6, ⟨#[49]⟩⟩, ⟨13, ⟨#[41]⟩⟩, ⟨13, ⟨#[41]⟩⟩]
def nd1 : Nd := .mk 5 ⟨#[49]⟩ .nil
def nd5 : Nd := Nd.of 12 ⟨#[]⟩ [Nd.of 12 ⟨#[]⟩ [nd1]]
theorem prog1 (a : Option Addr) (cap : Nat) ⦃w : World⦄ (h : Its w a tok1) : Calls Try.prog 42 #[.agg #[.slice a tok1.length cap, .int .i64 0, .bool false]] w (PE tok1 a cap w tok1.length nd1) :=
  program_ex (i := 0) (j := 1) h (by decide) (pipe_of (by decide) fst_num lst_no fun _ h2 => term_num (j := 1) h2 (by decide) rfl rfl) fst_num rfl
theorem prog5 (a : Option Addr) (cap : Nat) ⦃w : World⦄ (h : Its w a tok5) : Calls Try.prog 42 #[.agg #[.slice a tok5.length cap, .int .i64 0, .bool false]] w (PE tok5 a cap w tok5.length nd5) := by
  have h2 := pipe_of (l := tok5) (a := a) (cap := cap) (i := 2) (j := 3) (d := nd1) (by decide) fst_num lst_cls fun _ h2 => term_num (j := 3) h2 (by decide) rfl rfl
  have h1 := pipe_of (l := tok5) (a := a) (cap := cap) (i := 1) (j := 4) (d := Nd.of 12 ⟨#[]⟩ [nd1]) (by decide) fst_opn lst_cls fun _ h3 => term_opn h3 (by decide) fst_opn (by decide) fun _ h4 => bracket_ex (j1 := 2) (j2 := 3) h4 (by decide) rfl (opB_yes rfl rfl) h2 (by decide) (opB_yes rfl rfl) rfl
  have h0 := pipe_of (l := tok5) (a := a) (cap := cap) (i := 0) (j := 5) (d := nd5) (by decide) fst_opn lst_no fun _ h3 => term_opn h3 (by decide) fst_opn (by decide) fun _ h4 => bracket_ex (j1 := 1) (j2 := 4) h4 (by decide) rfl (opB_yes rfl rfl) h1 (by decide) (opB_yes rfl rfl) rfl
  exact program_ex (i := 0) (j := 5) h (by decide) h0 fst_opn rfl
theorem source1 (w : World) : Calls Try.prog 13 #[.string ⟨#[49]⟩] w (SE w nd1) := by
  refine source_ex ⟨#[49]⟩ w tok1 nd1 (by decide) rfl (by decide) (by decide) (fun k h W => ?_) prog1
  match k, h with
  | 0, _ => exact plain_num _ W (by decide) (by decide) (by decide) (by decide)
theorem source5 (w : World) : Calls Try.prog 13 #[.string ⟨#[40, 40, 49, 41, 41]⟩] w (SE w nd5) := by
  refine source_ex ⟨#[40, 40, 49, 41, 41]⟩ w tok5 nd5 (by decide) rfl (by decide) (by decide) (fun k h W => ?_) prog5
  match k, h with
  | 0, _ => exact plain_opn _ W (by decide) (by decide) (by decide)
  | 1, _ => exact plain_opn _ W (by decide) (by decide) (by decide)
  | 2, _ => exact plain_num _ W (by decide) (by decide) (by decide) (by decide)
  | 3, _ => exact plain_opn _ W (by decide) (by decide) (by decide)
  | 4, _ => exact plain_opn _ W (by decide) (by decide) (by decide)
end Go.Proofs.Ytacgmmpdichlmaa
namespace Go.Proofs.Ytacgmmpdichlmaa
open Go.RowKit
attribute [local go_sem ↓] Go.wp_at_zero Go.wp_at_succ

/-- A row of numbers of the call's own. -/
def OwnP (w : World) (B : Nat) (v : Value) (p : List Int) : Prop := w.ownsRow B 3 1 v p.length (p.map fun z => .int .i64 z)
theorem OwnP.path {w : World} {B : Nat} {v : Value} {p : List Int} (h : OwnP w B v p) : IsPath w (New B w) v p := IsPath.of_own h
/-- The call hands back a path in new memory. -/
def PathNew (w : World) (p : List Int) (e : Ending) (w' : World) : Prop := ∃ a c, e = .returned (.slice a p.length c) ∧ OwnP w' w.heap.size (.slice a p.length c) p ∧ Below w.heap.size w w'
set_option maxRecDepth 100000 in
theorem clone_any {u : Value} {p : List Int} {w : World} (h : IsPath w (· < w.heap.size) u p) (hl : p.length ≤ 900000) : Calls Try.prog 31 #[u] w (PathNew w p) := by
  obtain ⟨a, c, rfl, hpl, hp⟩ := h
  have hq := Lib.run_eql_slice_nil (P := Try.prog) w 31 3 a p.length c 0 0 Try.underlying31
  cases a with
  | none =>
    have hnil : p = [] := by
      by_cases hne : p = []
      · exact hne
      · obtain ⟨b, o, ha, _⟩ := hp hne
        cases ha
    subst hnil
    simp only [Option.isNone_none, List.length_nil] at hq
    go_enter Try.func31, Try.ntmps31
    go_wp2_with fail
    go_ret
    exact ⟨none, 0, rfl, World.ownsRow_nil _ _ _ _, Below.refl _ _⟩
  | some ad =>
    simp only [Option.isNone_some] at hq
    have hbw : Below w.heap.size w (w.alloc (.cells #[] 3)) := (Below.refl _ w).alloc (Nat.le_refl _) _
    have hown : (w.alloc (.cells #[] 3)).ownsRow w.heap.size 3 1 (.slice (some ⟨w.heap.size, 0, none⟩) 0 0) 0 [] :=
      ⟨rfl, .inr ⟨w.heap.size, 0, #[], rfl, Nat.le_refl _, heap_alloc_new w _, Nat.le_refl _, by decide, rfl, rfl⟩⟩
    by_cases hne : p = []
    · subst hne
      simp only [List.length_nil] at hq
      have hr := app_none (ty := 31) Try.underlying31 infoInt (.slice (some ⟨w.heap.size, 0, none⟩) 0 0) (some ad) c _ hown
      go_enter Try.func31, Try.ntmps31
      go_wp2_with (at_builtin; refine wpList_app rfl _ _ (by rfl) (by rfl) (by rfl) (by rfl) hr ?_)
      go_ret
      exact ⟨_, _, rfl, hown, hbw⟩
    · obtain ⟨b, o, hv, hb, hc⟩ := hp hne
      cases hv
      have hpos : 0 < p.length := List.length_pos_iff.2 hne
      have hbb : b < w.heap.size := hb
      obtain ⟨v', w', hr, hown', hg, hblk⟩ := app_run (ty := 31) Try.underlying31 infoInt rfl (by decide) (by decide) hown b o p.length c (p.map fun z => .int .i64 z) (by rw [List.length_map]; omega) (fun j x hx => by
        rw [List.getElem?_map] at hx
        obtain ⟨z, hz, rfl⟩ := Option.map_eq_some_iff.1 hx
        exact (hbw.cell (p := ⟨b, o + j, none⟩) hbb).trans (hc j z hz)) (by simp [Value.oneCell']) (by omega) hpos (by simp)
      rw [Nat.zero_add, List.nil_append] at hown'
      obtain ⟨a', c', rfl⟩ := own_form hown'
      have hfin : Below w.heap.size w w' := hbw.grown hg (by simp) (fun r hr => (hown.lt r hr).1)
      have HO := hide hown'
      clear hown hown' hg hblk hbw
      go_enter Try.func31, Try.ntmps31
      go_wp2_with (at_builtin; refine wpList_app rfl _ _ (by rfl) (by rfl) (by rfl) (by rfl) hr ?_)
      go_ret
      exact ⟨_, _, rfl, HO.out, hfin⟩
/-- 'append(slices.Clone(p), i)'. -/
theorem snoc_path {B : Nat} {w : World} (i : Int) {v : Value} {p : List Int} (h : OwnP w B v p) (hl : p.length ≤ 900000) (hB : B ≤ w.heap.size) :
    ∃ a c w2, (Builtin.append_ #[31, 31] 31 #[v, .slice (some ⟨w.heap.size, 0, none⟩) 1 1]).run Try.prog (w.alloc (.cells #[.int .i64 i] 3)) = .ok (.slice a (p.length + 1) c) w2 ∧ OwnP w2 B (.slice a (p.length + 1) c) (p ++ [i]) ∧ Below B w w2 := by
  have hb := Blk.new w 3 #[.int .i64 i]
  obtain ⟨v', w', hr, hown, hgr, hblk⟩ := app_run (ty := 31) Try.underlying31 infoInt rfl (by decide) (by decide) (World.ownsRow.alloc h (.cells #[.int .i64 i] 3)) w.heap.size 0 1 1 [.int .i64 i] rfl (fun j u hu => by rw [Nat.zero_add, hb.cell j]; simpa using hu) (by simp [Value.oneCell']) (by omega) (by decide) (by simp; omega)
  obtain ⟨a, c, rfl⟩ := own_form hown
  exact ⟨a, c, w', hr, by rw [OwnP, List.length_append, List.map_append]; exact hown, ((Below.refl B w).alloc hB _).grown hgr (by simp; omega) (fun r hr => (World.ownsRow.lt h r hr).1)⟩
theorem each_any (k : Int) (s : ByteArray) (y : Option Addr) (m c : Nat) (a : Option Addr) (n d : Nat) (w : World) : Calls Try.prog 17 #[.agg #[.int .i64 k, .string s, .slice y m c], .slice a n d] w fun e w' => e = .returned (.func (.func 30) #[] #[.pointer (some ⟨w.heap.size, 0, none⟩), .pointer (some ⟨w.heap.size + 1, 0, none⟩)]) ∧ w' = (w.alloc (.cells #[.int .i64 k, .string s, .slice y m c] 25)).alloc (.cells #[.slice a n d] 31) := by
  go_enter Try.func17, Try.ntmps17
  go_wp2_with fail
  go_ret
  exact ⟨rfl, rfl⟩
end Go.Proofs.Ytacgmmpdichlmaa
