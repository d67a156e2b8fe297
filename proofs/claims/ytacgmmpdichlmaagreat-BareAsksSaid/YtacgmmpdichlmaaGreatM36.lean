/-
  slices.Clone at numbers; a path with one step more; the program's each. Its conditions: the slice reads as numbers, of which there are at most 900000.
  The reference's lexer outside of strings at a token of one byte, no bracket being open in a string: exactly. Its condition: a text has at most 65536 bytes.
  The reference's Tokens: of any text; and exactly, of a text whose tokens are one byte each. No condition.
  The reference's Items: what counts of tokens. Its condition: the tokens lie in a row of the caller's.
  The walk of the reference's Items. Its condition: the tokens lie in a row of the caller's; there are at most 65536.
  The end of a function that hands back a node and two numbers. No condition.
  The reference's Program and Source: of any items, of any text. No condition.
  The law's generator of programs as a whole: some text; a tree of it, or an error. Its condition: the choices read as bytes.
  The reference's Source at the two texts of the laws' example, exactly. No condition.
-/
import Derived.Test.YtacgmmpdichlmaaGreatM33
import Derived.Lib.IndexBytes
import Derived.Test.YtacgmmpdichlmaaGreatM35
import Derived.Deep.QuietTactic
import Derived.BigQuiet
import Derived.Test.YtacgmmpdichlmaaGreatM04
import Derived.Test.YtacgmmpdichlmaaGreatM03
import Derived.Test.YtacgmmpdichlmaaGreatM02
import Derived.Test.YtacgmmpdichlmaaGreatM34
import Derived.Test.YtacgmmpdichlmaaGreatM08
import Derived.Test.YtacgmmpdichlmaaGreatM09
import Derived.Test.YtacgmmpdichlmaaGreatM25
namespace Go.Proofs.YtacgmmpdichlmaaGreat
open Go.RowKit
attribute [local go_sem ↓] Go.wp_at_zero Go.wp_at_succ

/-- A row of numbers of the call's own. -/
def OwnP (w : World) (B : Nat) (v : Value) (p : List Int) : Prop := w.ownsRow B 3 1 v p.length (p.map fun z => .int .i64 z)
theorem OwnP.path {w : World} {B : Nat} {v : Value} {p : List Int} (h : OwnP w B v p) : IsPath w (New B w) v p := IsPath.of_own h
/-- The call hands back a path in new memory. -/
def PathNew (w : World) (p : List Int) (e : Ending) (w' : World) : Prop := ∃ a c, e = .returned (.slice a p.length c) ∧ OwnP w' w.heap.size (.slice a p.length c) p ∧ Below w.heap.size w w'
set_option maxRecDepth 100000 in
theorem clone_any {u : Value} {p : List Int} {w : World} (h : IsPath w (· < w.heap.size) u p) (hl : p.length ≤ 900000) : Calls Tryz.prog 52 #[u] w (PathNew w p) := by
  obtain ⟨a, c, rfl, hpl, hp⟩ := h
  have hq := Lib.run_eql_slice_nil (P := Tryz.prog) w 25 3 a p.length c 0 0 Tryz.underlying25
  cases a with
  | none =>
    have hnil : p = [] := by
      by_cases hne : p = []
      · exact hne
      · obtain ⟨b, o, ha, _⟩ := hp hne
        cases ha
    subst hnil
    simp only [Option.isNone_none, List.length_nil] at hq
    go_enter Tryz.func52, Tryz.ntmps52
    go_wp2_with fail
    go_ret
    exact ⟨none, 0, rfl, World.ownsRow_nil _ _ _ _, Below.refl _ _⟩
  | some ad =>
    simp only [Option.isNone_some] at hq
    have hbw : Below w.heap.size w (w.alloc (.cells #[] 3)) := (Below.refl _ w).alloc (Nat.le_refl _) _
    have hown : (w.alloc (.cells #[] 3)).ownsRow w.heap.size 3 1 (.slice (some ⟨w.heap.size, 0, none⟩) 0 0) 0 [] :=
      ⟨rfl, .inr ⟨w.heap.size, 0, #[], rfl, Nat.le_refl _, heap_alloc_new w _, Nat.le_refl _, by decide, rfl, rfl⟩⟩
    by_cases hne : p = []
    · subst hne
      simp only [List.length_nil] at hq
      have hr := app_none (ty := 25) Tryz.underlying25 infoInt (.slice (some ⟨w.heap.size, 0, none⟩) 0 0) (some ad) c _ hown
      go_enter Tryz.func52, Tryz.ntmps52
      go_wp2_with (at_builtin; refine wpList_app rfl _ _ (by rfl) (by rfl) (by rfl) (by rfl) hr ?_)
      go_ret
      exact ⟨_, _, rfl, hown, hbw⟩
    · obtain ⟨b, o, hv, hb, hc⟩ := hp hne
      cases hv
      have hpos : 0 < p.length := List.length_pos_iff.2 hne
      have hbb : b < w.heap.size := hb
      obtain ⟨v', w', hr, hown', hg, hblk⟩ := app_run (ty := 25) Tryz.underlying25 infoInt rfl (by decide) (by decide) hown b o p.length c (p.map fun z => .int .i64 z) (by rw [List.length_map]; omega) (fun j x hx => by
        rw [List.getElem?_map] at hx
        obtain ⟨z, hz, rfl⟩ := Option.map_eq_some_iff.1 hx
        exact (hbw.cell (p := ⟨b, o + j, none⟩) hbb).trans (hc j z hz)) (by simp [Value.oneCell']) (by omega) hpos (by simp)
      rw [Nat.zero_add, List.nil_append] at hown'
      obtain ⟨a', c', rfl⟩ := own_form hown'
      have hfin : Below w.heap.size w w' := hbw.grown hg (by simp) (fun r hr => (hown.lt r hr).1)
      have HO := hide hown'
      clear hown hown' hg hblk hbw
      go_enter Tryz.func52, Tryz.ntmps52
      go_wp2_with (at_builtin; refine wpList_app rfl _ _ (by rfl) (by rfl) (by rfl) (by rfl) hr ?_)
      go_ret
      exact ⟨_, _, rfl, HO.out, hfin⟩
/-- 'append(slices.Clone(p), i)'. -/
theorem snoc_path {B : Nat} {w : World} (i : Int) {v : Value} {p : List Int} (h : OwnP w B v p) (hl : p.length ≤ 900000) (hB : B ≤ w.heap.size) :
    ∃ a c w2, (Builtin.append_ #[25, 25] 25 #[v, .slice (some ⟨w.heap.size, 0, none⟩) 1 1]).run Tryz.prog (w.alloc (.cells #[.int .i64 i] 3)) = .ok (.slice a (p.length + 1) c) w2 ∧ OwnP w2 B (.slice a (p.length + 1) c) (p ++ [i]) ∧ Below B w w2 := by
  have hb := Blk.new w 3 #[.int .i64 i]
  obtain ⟨v', w', hr, hown, hgr, hblk⟩ := app_run (ty := 25) Tryz.underlying25 infoInt rfl (by decide) (by decide) (World.ownsRow.alloc h (.cells #[.int .i64 i] 3)) w.heap.size 0 1 1 [.int .i64 i] rfl (fun j u hu => by rw [Nat.zero_add, hb.cell j]; simpa using hu) (by simp [Value.oneCell']) (by omega) (by decide) (by simp; omega)
  obtain ⟨a, c, rfl⟩ := own_form hown
  exact ⟨a, c, w', hr, by rw [OwnP, List.length_append, List.map_append]; exact hown, ((Below.refl B w).alloc hB _).grown hgr (by simp; omega) (fun r hr => (World.ownsRow.lt h r hr).1)⟩
theorem each_any (k : Int) (s : ByteArray) (y : Option Addr) (m c : Nat) (a : Option Addr) (n d : Nat) (w : World) : Calls Tryz.prog 40 #[.agg #[.int .i64 k, .string s, .slice y m c], .slice a n d] w fun e w' => e = .returned (.func (.func 51) #[] #[.pointer (some ⟨w.heap.size, 0, none⟩), .pointer (some ⟨w.heap.size + 1, 0, none⟩)]) ∧ w' = (w.alloc (.cells #[.int .i64 k, .string s, .slice y m c] 24)).alloc (.cells #[.slice a n d] 25) := by
  go_enter Tryz.func40, Tryz.ntmps40
  go_wp2_with fail
  go_ret
  exact ⟨rfl, rfl⟩
end Go.Proofs.YtacgmmpdichlmaaGreat
namespace Go.Proofs.YtacgmmpdichlmaaGreat
open Go.RowKit
attribute [local go_sem ↓] Go.wp_at_zero Go.wp_at_succ

set_option maxRecDepth 100000 in
set_option maxHeartbeats 4000000 in
theorem outside_ex {w w1 : World} {s : ByteArray} {p : Nat} {t : Tk} {l : List Tk} {tv : Value} (hb : Below w.heap.size w w1) (hs : s.size ≤ 65536) (hp : p < s.size) (hl : l.length ≤ p) (hT : TRow w.heap.size w1 tv l) (hz1 : t.text.size = 1) (hk : t.kind = 6 ∨ t.kind = 13)
    (hpl : ∀ W, Calls Tryz.prog 68 #[.string (s.extract p s.size)] W fun e w' => e = .returned (.agg #[.int .i64 t.kind, .string t.text]) ∧ Below W.heap.size W w') :
    Calls Tryz.prog 55 #[Lxv s p tv (.slice none 0 0) false 0] w1 fun r w' => (∃ a c p', r = .returned (Lxv s p' (.slice a (l.length + 1) c) (.slice none 0 0) false 0) ∧ p' = p + 1 ∧ TRow w.heap.size w' (.slice a (l.length + 1) c) (l ++ [t])) ∧ Kt w.heap.size w1 w' := by
  obtain ⟨a, c, rfl⟩ := hT.form
  unfold Lxv
  have HT := hide hT
  have HO := hide (ORow.nil w.heap.size w1)
  have HPL := hide hpl
  have HTZ := hide hz1
  have hsz := size_ext s p
  have hq0 : (0 : Int) < ((s.extract p s.size).size : Int) := by omega
  have hw1 := hb.size
  have HSa := hide (st_start hb)
  have HNbz0 := hide (Bz.start w w1)
  have he := isEmpty_no (s := t.text) (by omega)
  have hne := toList_ne (s := t.text) (by omega)
  have ek7 : (t.kind == 7) = false := by rcases hk with h | h <;> rw [h] <;> rfl
  clear hT hpl hz1 hsz hk hb
  go_enter Tryz.func55, Tryz.ntmps55
  go_wp2_with fail
  have lv1 := lV HSa
  refine named fun W1 hW1 => ?_
  have HS1 := onS hW1 HSa.out.va.va
  have HNbz1 := hide (Bz.onto hW1 ((HNbz0.out.var (g := w1.heap.size) (by simp) _).var (g := w1.heap.size + 1) (by simp) _))
  clear HNbz0
  clear hW1 HSa
  refine (HPL.out _).mono ?_
  rintro e w2 ⟨rfl, hb2⟩
  have HS2 := hide (HS1.out.call hb2)
  have HNbz2 := hide (HNbz1.out.call hb2)
  clear HNbz1
  clear hb2 HS1
  have p0 := rD HS2
  go_wp2_with fail
  have lv3 := lV HS2
  refine named fun W3 hW3 => ?_
  have HS3 := onS hW3 HS2.out.va
  have HNbz3 := hide (Bz.onto hW3 (HNbz2.out.var (g := w2.heap.size) (by simp) _))
  clear HNbz2
  clear hW3 HS2
  clear p0
  obtain ⟨p4, hpp4⟩ : ∃ p4, p + (t.text).size = p4 := ⟨_, rfl⟩
  obtain ⟨m4, hm4⟩ : ∃ m4, l.length + 1 = m4 := ⟨_, rfl⟩
  have HP4 := hide hpp4
  have HM4 := hide hm4
  clear hpp4 hm4
  refine (put_b (B := w.heap.size) (t := ⟨t.kind, t.text⟩) (HT.out.below HNbz3.out.1) HS3.out.below.size (by omega) (by omega) (by have h1 := HTZ.out; simp only; omega) ⟨_, _, _, rfl⟩ HP4.out HM4.out).mono ?_
  rintro e w4 ⟨⟨ta4, tc4, rfl, hT4⟩, hk4⟩
  have HNbz4 := hide (show Bz w w1 w4 [w1.heap.size, w1.heap.size + 1] _ () from HNbz3.out.put hw1 hk4 hT4 (HO.out.below HNbz3.out.1) (HS3.out.take 2) (by simp) (by simp))
  have HS4 := hide (show St w w4 [(w1.heap.size, 81, #[.string s, .int .i64 p, .slice a l.length c, .slice none 0 0, .bool false, .int .i64 0]), (w1.heap.size + 1, 81, #[.string ⟨#[]⟩, .int .i64 0, .slice none 0 0, .slice none 0 0, .bool false, .int .i64 0])] from St.kt (HS3.out.take 2) hk4 (by simp))
  clear hT4 hk4 HNbz3 HS3
  have p0 := rD HS4
  go_wp2_with fail
  refine namedPost fun W5 hW5 => ?_
  have HS5 := onS hW5 (HS4.out.st6 1 rfl _ _ _ _ _ _)
  have HNbz5 := hide (Bz.onto hW5 (HNbz4.out.st6 (by simp) _ _ _ _ _ _))
  clear HNbz4
  clear hW5 HS4
  clear p0
  have hm4 := HM4.out
  subst hm4
  exact ended_L rfl rfl (HS5.out.get 1 rfl) ⟨⟨_, _, _, rfl, by have h1 := HP4.out; have h2 := HTZ.out; omega, HNbz5.out.1⟩, HNbz5.out.2.2.1⟩
end Go.Proofs.YtacgmmpdichlmaaGreat
namespace Go.Proofs.YtacgmmpdichlmaaGreat
open Go.RowKit
attribute [local go_sem ↓] Go.wp_at_zero Go.wp_at_succ

/-- How far the lexer has still to go. -/
def lexLeft (n g : Nat) (w : World) : Nat :=
  match w.cell? ⟨g, 1, none⟩, w.cell? ⟨g, 5, none⟩ with
  | some (.int _ p), some (.int _ e) => if e = 0 then n - p.toNat + 1 else 0
  | _, _ => 0
theorem lexLeft_of {n g p : Nat} {w : World} {t : TypeId} {e : Int} {a b c d : Value} (h : Blk w g t #[a, .int .i64 p, b, c, d, .int .i64 e]) : lexLeft n g w = if e = 0 then n - p + 1 else 0 := by
  have h1 := h.cell 1
  have h2 := h.cell 5
  simp only [lexLeft, h1, h2]
  rfl
/-- What Tokens hands back. -/
def TokensP (w : World) (r : Ending) (w' : World) : Prop :=
  (∃ (v : Value) (l : List Tk) (e p : Int), r = .returned (.tuple #[v, .int .i64 e, .int .i64 p]) ∧ TRow w.heap.size w' v l ∧ l.length ≤ 65536 ∧ (∀ t ∈ l, t.ok)) ∧ Below w.heap.size w w'
theorem TokensP.err {w w' : World} (e p : Int) (hb : Below w.heap.size w w') : TokensP w (.returned (.tuple #[.slice none 0 0, .int .i64 e, .int .i64 p])) w' :=
  ⟨⟨_, [], e, p, rfl, World.ownsRow_nil _ _ _ _, by simp, by simp⟩, hb⟩
def lexV (g : Nat) (s : ByteArray) (p : Nat) (tv ov : Value) (inn : Bool) (e : Int) : List (Nat × TypeId × Array Value) := [(g, 81, #[.string s, .int .i64 p, tv, ov, .bool inn, .int .i64 e])]
/-- The loop's state. -/
def LexI (w : World) (g : Nat) (s : ByteArray) (p : Nat) (ta : Option Addr) (tc : Nat) (l : List Tk) (oa : Option Addr) (n oc : Nat) (inn : Bool) (e : Int) (W : World) : Prop :=
  St w W (lexV g s p (.slice ta l.length tc) (.slice oa n oc) inn e) ∧ TRow w.heap.size W (.slice ta l.length tc) l ∧ ORow w.heap.size W (.slice oa n oc) n ∧ (l.length ≤ p ∧ p ≤ s.size ∧ n ≤ 256) ∧ (∀ t ∈ l, t.ok)
theorem TRow.st6 {B g : Nat} {W : World} {v : Value} {l : List Tk} {a b c d e f : Value} (h : TRow B W v l) (hb : Blk W g 81 #[a, b, c, d, e, f]) (a' b' c' d' e' f' : Value) :
    TRow B ((((((W.setCell ⟨g, 0, none⟩ a').setCell ⟨g, 1, none⟩ b').setCell ⟨g, 2, none⟩ c').setCell ⟨g, 3, none⟩ d').setCell ⟨g, 4, none⟩ e').setCell ⟨g, 5, none⟩ f') v l := by
  have hne := own_blk_ne h hb (by decide)
  exact (((((World.ownsRow.setOther h hne 0 a').setOther hne 1 b').setOther hne 2 c').setOther hne 3 d').setOther hne 4 e').setOther hne 5 f'
theorem ORow.st6 {B g n : Nat} {W : World} {v : Value} {a b c d e f : Value} (h : ORow B W v n) (hb : Blk W g 81 #[a, b, c, d, e, f]) (a' b' c' d' e' f' : Value) :
    ORow B ((((((W.setCell ⟨g, 0, none⟩ a').setCell ⟨g, 1, none⟩ b').setCell ⟨g, 2, none⟩ c').setCell ⟨g, 3, none⟩ d').setCell ⟨g, 4, none⟩ e').setCell ⟨g, 5, none⟩ f') v n := by
  obtain ⟨zs, hz, ho⟩ := h
  have hne := own_blk_ne ho hb (by decide)
  exact ⟨zs, hz, (((((ho.setOther hne 0 a').setOther hne 1 b').setOther hne 2 c').setOther hne 3 d').setOther hne 4 e').setOther hne 5 f'⟩

set_option maxRecDepth 100000 in
set_option maxHeartbeats 4000000 in
theorem tokens_any (s : ByteArray) (w : World) : Calls Tryz.prog 41 #[.string s] w (TokensP w) := by
  by_cases hs : s.size ≤ 65536
  · have hsi : ¬ (65536 : Int) < (s.size : Int) := by omega
    go_enter Tryz.func41, Tryz.ntmps41
    go_wp2_with fail
    refine (check_any s w hs).mono ?_
    rintro e w1 ⟨⟨n, rfl, hn1, hn2⟩, hb1⟩
    by_cases hn0 : 0 ≤ n
    · go_wp2_with fail
      go_ret3
      exact TokensP.err _ _ hb1
    · have HS1 := hide ((St.nil w).call hb1)
      clear hb1
      go_wp2_with fail
      refine namedWp fun W1 hW1 => ?_
      have HS2 := hide (show St w W1 (lexV w1.heap.size s 0 (.slice none 0 0) (.slice none 0 0) false 0) from St.onto hW1 (HS1.out.var 81 _ (by simp)))
      clear hW1 HS1
      go_loopw [] (fun wr => ∃ (p : Nat) (ta : Option Addr) (tc : Nat) (l : List Tk) (oa : Option Addr) (n oc : Nat) (inn : Bool) (e : Int), LexI w w1.heap.size s p ta tc l oa n oc inn e wr) (fun wr => lexLeft s.size w1.heap.size wr)
      case atStart => exact ⟨0, none, 0, [], none, 0, 0, false, 0, HS2.out, World.ownsRow_nil _ _ _ _, ORow.nil _ _, by simp, by simp⟩
      case round =>
        obtain ⟨p, ta, tc, l, oa, n, oc, inn, e, hS, hT, hO, ⟨hl, hp, hn⟩, hok⟩ := hrel
        have hMp := lexLeft_of (n := s.size) (hS.get 0 rfl)
        have HS := hide hS
        have HT := hide hT
        have HO := hide hO
        have HOK := hide hok
        have HM := hide hMp
        have p0 := (hS.get 0 rfl).see6
        clear hS hT hO hok hMp HS2
        by_cases hlt : p < s.size ∧ e = 0
        · obtain ⟨hlt, rfl⟩ := hlt
          have hlti : (p : Int) < (s.size : Int) := by omega
          cases inn with
          | true =>
            go_wp2_with fail
            refine (inside_any HS.out.below hs hlt hl HOK.out hn HT.out HO.out).mono ?_
            rintro r w2 ⟨⟨v', p', l', n', inn', e', rfl, ⟨tv, ov, rfl, hT', hO', ⟨hl', hp', hn'⟩, hok'⟩, hpp⟩, hk⟩
            obtain ⟨a', c', rfl⟩ := hT'.form
            obtain ⟨b', d', rfl⟩ := hO'.form
            have HS' := hide (HS.out.kt hk (by simp [lexV]))
            have HT' := hide hT'
            have HO' := hide hO'
            have HOK' := hide hok'
            unfold Lxv
            clear hT' hO' hk hok' HS HT HO HOK p0
            have p0 := (HS'.out.get 0 rfl).see6
            go_wp2_with fail
            refine ⟨⟨p', a', c', l', b', n', d', inn', e', HS'.out.st6 0 rfl _ _ _ _ _ _, HT'.out.st6 (HS'.out.get 0 rfl) _ _ _ _ _ _, HO'.out.st6 (HS'.out.get 0 rfl) _ _ _ _ _ _, ⟨hl', hp', hn'⟩, HOK'.out⟩, ?_⟩
            rw [lexLeft_of ((HS'.out.st6 0 rfl _ _ _ _ _ _).get 0 rfl), HM.out]
            by_cases h0 : e' = 0
            · have := hpp h0; simp [h0]; omega
            · simp [h0]
          | false =>
            go_wp2_with fail
            refine (outside_any HS.out.below hs hlt hl HOK.out hn HT.out HO.out).mono ?_
            rintro r w2 ⟨⟨v', p', l', n', inn', e', rfl, ⟨tv, ov, rfl, hT', hO', ⟨hl', hp', hn'⟩, hok'⟩, hpp⟩, hk⟩
            obtain ⟨a', c', rfl⟩ := hT'.form
            obtain ⟨b', d', rfl⟩ := hO'.form
            have HS' := hide (HS.out.kt hk (by simp [lexV]))
            have HT' := hide hT'
            have HO' := hide hO'
            have HOK' := hide hok'
            unfold Lxv
            clear hT' hO' hk hok' HS HT HO HOK p0
            have p0 := (HS'.out.get 0 rfl).see6
            go_wp2_with fail
            refine ⟨⟨p', a', c', l', b', n', d', inn', e', HS'.out.st6 0 rfl _ _ _ _ _ _, HT'.out.st6 (HS'.out.get 0 rfl) _ _ _ _ _ _, HO'.out.st6 (HS'.out.get 0 rfl) _ _ _ _ _ _, ⟨hl', hp', hn'⟩, HOK'.out⟩, ?_⟩
            rw [lexLeft_of ((HS'.out.st6 0 rfl _ _ _ _ _ _).get 0 rfl), HM.out]
            by_cases h0 : e' = 0
            · have := hpp h0; simp [h0]; omega
            · simp [h0]
        · by_cases he : e = 0
          · subst he
            have hlti : ¬ (p : Int) < (s.size : Int) := by omega
            cases inn with
            | true =>
              go_wp2_with fail
              go_ret3
              exact TokensP.err _ _ HS.out.below
            | false =>
              by_cases hno : 0 < n
              · have hnoi : (0 : Int) < (n : Int) := by omega
                go_wp2_with fail
                go_ret3
                exact TokensP.err _ _ HS.out.below
              · have hnoi : ¬ (0 : Int) < (n : Int) := by omega
                go_wp2_with fail
                go_ret3
                exact ⟨⟨_, l, 0, 0, rfl, HT.out, by omega, HOK.out⟩, HS.out.below⟩
          · have hee : (e == 0) = false := by simpa using he
            have hen : (e != 0) = true := by simpa using he
            by_cases hlt2 : p < s.size
            · have hlti : (p : Int) < (s.size : Int) := by omega
              go_wp2_with fail
              go_quiet (fail)
              all_goals
                go_wp2_with fail
                go_ret3
                exact TokensP.err _ _ (below_drewN HS.out.below _)
            · have hlti : ¬ (p : Int) < (s.size : Int) := by omega
              go_wp2_with fail
              go_quiet (fail)
              all_goals
                go_wp2_with fail
                go_ret3
                exact TokensP.err _ _ (below_drewN HS.out.below _)
  · have hsi : (65536 : Int) < (s.size : Int) := by omega
    go_enter Tryz.func41, Tryz.ntmps41
    go_wp2_with fail
    go_ret3
    exact TokensP.err _ _ (Below.refl _ _)

set_option maxRecDepth 100000 in
set_option maxHeartbeats 4000000 in
/-- A text whose tokens are one byte each. -/
theorem tokens_ex (s : ByteArray) (w : World) (T : List Tk) (hs : s.size ≤ 65536) (hT : T.length = s.size) (ha : ∀ i (h : i < s.size), s[i].toNat < 128) (hz : ∀ t ∈ T, t.text.size = 1 ∧ (t.kind = 6 ∨ t.kind = 13))
    (hpl : ∀ (k : Nat) (h : k < T.length) (W : World), Calls Tryz.prog 68 #[.string (s.extract k s.size)] W fun e w' => e = .returned (.agg #[.int .i64 T[k].kind, .string T[k].text]) ∧ Below W.heap.size W w') :
    Calls Tryz.prog 41 #[.string s] w fun r w' => (∃ v, r = .returned (.tuple #[v, .int .i64 0, .int .i64 0]) ∧ TRow w.heap.size w' v T) ∧ Below w.heap.size w w' := by
  have hsi : ¬ (65536 : Int) < (s.size : Int) := by omega
  have HTL := hide hT
  have HA := hide ha
  have HZ := hide hz
  have HPL := hide hpl
  clear hT ha hz hpl
  go_enter Tryz.func41, Tryz.ntmps41
  go_wp2_with fail
  refine (check_ascii s w hs HA.out).mono ?_
  rintro e w1 ⟨rfl, hb1⟩
  have HS1 := hide ((St.nil w).call hb1)
  clear hb1
  go_wp2_with fail
  refine namedWp fun W1 hW1 => ?_
  have HS2 := hide (show St w W1 (lexV w1.heap.size s 0 (.slice none 0 0) (.slice none 0 0) false 0) from St.onto hW1 (HS1.out.var 81 _ (by simp)))
  clear hW1 HS1
  go_loopw [] (fun wr => ∃ (p : Nat) (ta : Option Addr) (tc : Nat), p ≤ s.size ∧ St w wr (lexV w1.heap.size s p (.slice ta p tc) (.slice none 0 0) false 0) ∧ TRow w.heap.size wr (.slice ta p tc) (T.take p)) (fun wr => lexLeft s.size w1.heap.size wr)
  case atStart => exact ⟨0, none, 0, Nat.zero_le _, HS2.out, World.ownsRow_nil _ _ _ _⟩
  case round =>
    obtain ⟨p, ta, tc, hp, hS, hT⟩ := hrel
    have hMp := lexLeft_of (n := s.size) (hS.get 0 rfl)
    have HS := hide hS
    have HT := hide hT
    have HM := hide hMp
    have p0 := (hS.get 0 rfl).see6
    clear hS hT hMp HS2
    by_cases hlt : p < s.size
    · have hlti : (p : Int) < (s.size : Int) := by omega
      have hpT : p < T.length := by rw [HTL.out]; exact hlt
      obtain ⟨hz1, hz2⟩ := HZ.out T[p] (List.getElem_mem hpT)
      have hlen : (T.take p).length = p := by rw [List.length_take]; omega
      have HL := hide hlen
      have HO := hide (outside_ex (l := T.take p) HS.out.below hs hlt (by rw [hlen]; exact Nat.le_refl _) HT.out hz1 hz2 (HPL.out p hpT))
      clear hz1 hz2 hlen
      go_wp2_with fail
      refine HO.out.mono ?_
      rintro r w2 ⟨⟨a', c', p', rfl, hpp, hT'⟩, hk⟩
      rw [HL.out] at hT' ⊢
      obtain ⟨p2, hp2⟩ : ∃ p2, p + 1 = p2 := ⟨_, rfl⟩
      rw [hp2] at hT' ⊢ hpp
      rw [hpp]
      have hT2 : T.take p ++ [T[p]] = T.take p2 := by rw [← hp2, List.take_succ_eq_append_getElem hpT]
      rw [hT2] at hT'
      have HS' := hide (HS.out.kt hk (by simp [lexV]))
      have HT' := hide hT'
      unfold Lxv
      clear hT' hk HS HT p0 HO hT2 hpp
      have HP2 := hide hp2
      clear hp2
      have p0 := (HS'.out.get 0 rfl).see6
      go_wp2_with fail
      refine ⟨⟨p2, a', c', by have := HP2.out; omega, HS'.out.st6 0 rfl _ _ _ _ _ _, HT'.out.st6 (HS'.out.get 0 rfl) _ _ _ _ _ _⟩, ?_⟩
      rw [lexLeft_of ((HS'.out.st6 0 rfl _ _ _ _ _ _).get 0 rfl), HM.out]
      have := HP2.out
      simp
      omega
    · have hlti : ¬ (p : Int) < (s.size : Int) := by omega
      have hpe : T.take p = T := List.take_of_length_le (by rw [HTL.out]; omega)
      have HT2 := hide (show TRow w.heap.size wr (.slice ta p tc) T from hpe ▸ HT.out)
      clear hpe
      go_wp2_with fail
      go_ret3
      exact ⟨⟨_, rfl, HT2.out⟩, HS.out.below⟩
end Go.Proofs.YtacgmmpdichlmaaGreat
namespace Go.Proofs.YtacgmmpdichlmaaGreat
open Go.RowKit
attribute [local go_sem ↓] Go.wp_at_zero Go.wp_at_succ

theorem infoItem : (Tryz.prog.info? 68).map (fun i => (i.zero, i.size, i.bytes)) = some (some (.agg #[.int .i64 0, .string ByteArray.empty, .int .i64 0, .slice none 0 0]), 4, 56) := by kernel_rfl
/-- A row of texts. -/
def SRow (B : Nat) (w : World) (v : Value) (n : Nat) : Prop := ∃ zs : List ByteArray, zs.length = n ∧ w.ownsRow B 9 1 v n (zs.map fun z => .string z)
theorem SRow.below {B n : Nat} {w W : World} {v : Value} (ho : SRow B w v n) (hb : Below w.heap.size w W) : SRow B W v n := by
  obtain ⟨zs, hz, ho⟩ := ho
  exact ⟨zs, hz, own_below ho hb⟩
theorem SRow.form {B n : Nat} {w : World} {v : Value} (ho : SRow B w v n) : ∃ a c, v = .slice a n c := by
  obtain ⟨zs, hz, ho⟩ := ho
  exact own_form ho
theorem SRow.nil (B : Nat) (w : World) : SRow B w (.slice none 0 0) 0 := ⟨[], rfl, World.ownsRow_nil _ _ _ _⟩
theorem SRow.mono {B B' n : Nat} {w : World} {v : Value} (h : SRow B' w v n) (hb : B ≤ B') : SRow B w v n := by
  obtain ⟨zs, hz, ho⟩ := h
  refine ⟨zs, hz, ho.1, ?_⟩
  rcases ho.2 with hn | ⟨g, cap, cur, hv, hb', rest⟩
  · exact .inl hn
  · exact .inr ⟨g, cap, cur, hv, Nat.le_trans hb hb', rest⟩
theorem str_copy {B n : Nat} {W : World} {v : Value} (h : SRow B W v n) (hn : n ≤ 900000) :
    ∃ a c w1, (Builtin.append_ #[47, 47] 47 #[.slice none 0 0, v]).run Tryz.prog W = .ok (.slice a n c) w1 ∧ SRow W.heap.size w1 (.slice a n c) n ∧ Below W.heap.size W w1 := by
  obtain ⟨zs, hz, ho⟩ := h
  rcases Nat.eq_zero_or_pos n with rfl | hp
  · obtain ⟨a, c, rfl⟩ := own_form ho
    exact ⟨none, 0, W, app_none Tryz.underlying47 infoStr (.slice none 0 0) a c W (World.ownsRow_nil W W.heap.size 9 1), SRow.nil _ _, Below.refl _ _⟩
  · rcases ho.2 with ⟨rfl, h0⟩ | ⟨g, cap, cur, rfl, hb, hg, rest⟩
    · omega
    · have hc : ∀ j u, (zs.map fun z => Value.string z)[j]? = some u → W.cell? ⟨g, 0 + j, none⟩ = some u := fun j u hu => by
        have hj := (List.getElem?_eq_some_iff.1 hu).1
        rw [List.length_map, hz] at hj
        rw [Nat.zero_add, ho.cellAt j (by omega), hu]
      obtain ⟨v', w', hr, hown, hgr, hblk⟩ := app_run (ty := 47) Tryz.underlying47 infoStr rfl (by decide) (by decide) (World.ownsRow_nil W W.heap.size 9 1) g 0 n cap (zs.map fun z => .string z) (by rw [List.length_map, hz]; omega) hc (by simp [Value.oneCell']) (by omega) hp (Nat.le_refl _)
      rw [Nat.zero_add, List.nil_append] at hown
      obtain ⟨a, c, rfl⟩ := own_form hown
      exact ⟨a, c, w', hr, ⟨zs, hz, hown⟩, (Below.refl _ W).grown hgr (Nat.le_refl _) (fun r hr => by simp [Value.ownBlock] at hr)⟩
theorem str_push {B n : Nat} {W : World} {v : Value} (x : ByteArray) (h : SRow B W v n) (hn : n ≤ 900000) (hB : B ≤ W.heap.size) :
    ∃ a c w1, (Builtin.append_ #[47, 47] 47 #[v, .slice (some ⟨W.heap.size, 0, none⟩) 1 1]).run Tryz.prog (W.alloc (.cells #[.string x] 9)) = .ok (.slice a (n + 1) c) w1 ∧ SRow B w1 (.slice a (n + 1) c) (n + 1) ∧ Below B W w1 ∧ W.grownBy w1 v.ownBlock := by
  obtain ⟨zs, hz, ho⟩ := h
  have hb := Blk.new W 9 #[.string x]
  obtain ⟨v', w', hr, hown, hgr, hblk⟩ := app_run (ty := 47) Tryz.underlying47 infoStr rfl (by decide) (by decide) (ho.alloc (.cells #[.string x] 9)) W.heap.size 0 1 1 [.string x] rfl (fun j u hu => by rw [Nat.zero_add, hb.cell j]; simpa using hu) (by simp [Value.oneCell']) (by omega) (by decide) (by simp; omega)
  obtain ⟨a, c, rfl⟩ := own_form hown
  refine ⟨a, c, w', hr, ⟨zs ++ [x], by simp [hz], by rw [List.map_append]; exact hown⟩, ((Below.refl B W).alloc hB _).grown hgr (by simp; omega) (fun r hr => (ho.lt r hr).1), ⟨hgr.os, hgr.tape, hgr.output, by have := hgr.size; simp at this; omega, fun k hk hne => (hgr.block k (by simp; omega) hne).trans (Below.heap_alloc W _ k hk)⟩⟩

/-- What counts. -/
def plainB (t : Tk) : Bool := t.kind != 1 && t.kind != 2
theorem plainItem_any (t : Tk) (w : World) : Calls Tryz.prog 56 #[.agg #[.int .i64 t.kind, .string t.text]] w fun e w' => e = .returned (.bool (plainB t)) ∧ Below w.heap.size w w' := by
  have hfa := fieldT0 t.kind t.text
  cases h1 : t.kind != 1 with
  | false =>
    have H1 := hide h1
    clear h1
    have h1 := H1.out
    go_enter Tryz.func56, Tryz.ntmps56
    go_wp2_with fail
    go_ret
    exact ⟨ret_bool (by rw [plainB, H1.out]; rfl), (Below.refl _ _).alloc (Nat.le_refl _) _⟩
  | true =>
    have H1 := hide h1
    go_enter Tryz.func56, Tryz.ntmps56
    go_wp2_with fail
    go_ret
    exact ⟨ret_bool (by rw [plainB, H1.out]; rfl), (Below.refl _ _).alloc (Nat.le_refl _) _⟩

/-- The row of items: each holds its token, and a place; the last one has the notes nv. -/
def IRow (B : Nat) (w : World) (v : Value) (T : List Tk) (nv : Value) : Prop :=
  ∃ xs, w.ownsRow B 68 4 v T.length xs ∧ (∀ k t, T[k]? = some t → xs[k * 4]? = some (.int .i64 t.kind) ∧ xs[k * 4 + 1]? = some (.string t.text) ∧ ∃ p : Int, xs[k * 4 + 2]? = some (.int .i64 p)) ∧ (∀ k, k + 1 = T.length → xs[k * 4 + 3]? = some nv)
theorem IRow.nil (B : Nat) (w : World) (nv : Value) : IRow B w (.slice none 0 0) [] nv := ⟨[], World.ownsRow_nil _ _ _ _, by simp, by simp⟩
theorem IRow.form {B : Nat} {w : World} {v nv : Value} {T : List Tk} (h : IRow B w v T nv) : ∃ a c, v = .slice a T.length c := by
  obtain ⟨xs, h1, _⟩ := h
  exact own_form h1
theorem IRow.below {B : Nat} {w W : World} {v nv : Value} {T : List Tk} (h : IRow B w v T nv) (hb : Below w.heap.size w W) : IRow B W v T nv := by
  obtain ⟨xs, h1, h2⟩ := h
  exact ⟨xs, own_below h1 hb, h2⟩
/-- An item more. -/
theorem IRow.snoc {B : Nat} {W : World} {v nv : Value} {T : List Tk} (h : IRow B W v T nv) (t : Tk) (p : Int) (hl : T.length ≤ 900000) (hB : B ≤ W.heap.size) :
    ∃ a c w1, (Builtin.append_ #[61, 61] 61 #[v, .slice (some ⟨W.heap.size, 0, none⟩) 1 1]).run Tryz.prog (W.alloc (.cells #[.int .i64 t.kind, .string t.text, .int .i64 p, .slice none 0 0] 68)) = .ok (.slice a (T.length + 1) c) w1 ∧ IRow B w1 (.slice a (T.length + 1) c) (T ++ [t]) (.slice none 0 0) ∧ Below B W w1 ∧ W.grownBy w1 v.ownBlock := by
  obtain ⟨xs, h1, h2, h3⟩ := h
  have hb := Blk.new W 68 #[.int .i64 t.kind, .string t.text, .int .i64 p, .slice none 0 0]
  obtain ⟨v', w', hr, hown, hgr, hblk⟩ := app_run (ty := 61) Tryz.underlying61 infoItem rfl (by decide) (by decide) (h1.alloc (.cells #[.int .i64 t.kind, .string t.text, .int .i64 p, .slice none 0 0] 68)) W.heap.size 0 1 1 [.int .i64 t.kind, .string t.text, .int .i64 p, .slice none 0 0] rfl (fun j u hu => by rw [Nat.zero_add, hb.cell j]; simpa using hu) (by simp [Value.oneCell']) (by omega) (by decide) (by simp; omega)
  obtain ⟨a, c, rfl⟩ := own_form hown
  have hx : xs.length = T.length * 4 := h1.1
  refine ⟨a, c, w', hr, ⟨xs ++ [.int .i64 t.kind, .string t.text, .int .i64 p, .slice none 0 0], by rw [List.length_append]; exact hown, fun k u hu => ?_, fun k hk => ?_⟩, ((Below.refl B W).alloc hB _).grown hgr (by simp; omega) (fun r hr => (h1.lt r hr).1), ⟨hgr.os, hgr.tape, hgr.output, by have := hgr.size; simp at this; omega, fun k hk hne => (hgr.block k (by simp; omega) hne).trans (Below.heap_alloc W _ k hk)⟩⟩
  · rcases Nat.lt_or_ge k T.length with hlt | hge
    · rw [List.getElem?_append_left hlt] at hu
      obtain ⟨q0, q1, p', q2⟩ := h2 k u hu
      exact ⟨by rw [List.getElem?_append_left (by omega)]; exact q0, by rw [List.getElem?_append_left (by omega)]; exact q1, p', by rw [List.getElem?_append_left (by omega)]; exact q2⟩
    · have hk : k = T.length := by
        have := (List.getElem?_eq_some_iff.1 hu).1
        simp at this
        omega
      subst hk
      obtain rfl : t = u := by simpa using hu
      exact ⟨by rw [List.getElem?_append_right (by omega), hx, Nat.sub_self]; rfl, by rw [List.getElem?_append_right (by omega), hx, show T.length * 4 + 1 - T.length * 4 = 1 by omega]; rfl, p, by rw [List.getElem?_append_right (by omega), hx, show T.length * 4 + 2 - T.length * 4 = 2 by omega]; rfl⟩
  · rw [List.length_append] at hk
    have hk : k = T.length := by simpa using hk
    subst hk
    rw [List.getElem?_append_right (by omega), hx, show T.length * 4 + 3 - T.length * 4 = 3 by omega]; rfl
/-- The last one's notes are turned. -/
theorem IRow.set {B g c n : Nat} {W : World} {nv nv' : Value} {T : List Tk} (h : IRow B W (.slice (some ⟨g, 0, none⟩) (n + 1) c) T nv) (hn : T.length = n + 1) : IRow B (W.setCell ⟨g, n * 4 + 3, none⟩ nv') (.slice (some ⟨g, 0, none⟩) (n + 1) c) T nv' := by
  obtain ⟨xs, h1, h2, h3⟩ := h
  have hx : xs.length = T.length * 4 := h1.1
  rw [hn] at h1
  refine ⟨xs.set (n * 4 + 3) nv', by rw [hn]; exact (h1.stored _ _).1, fun k u hu => ?_, fun k hk => ?_⟩
  · obtain ⟨q0, q1, p, q2⟩ := h2 k u hu
    exact ⟨by rw [List.getElem?_set_ne (by omega)]; exact q0, by rw [List.getElem?_set_ne (by omega)]; exact q1, p, by rw [List.getElem?_set_ne (by omega)]; exact q2⟩
  · obtain rfl : k = n := by omega
    rw [List.getElem?_set_self (by omega)]
theorem IRow.open_ {B n : Nat} {W : World} {v nv : Value} {T : List Tk} (h : IRow B W v T nv) (hn : T.length = n + 1) : ∃ g c, v = .slice (some ⟨g, 0, none⟩) (n + 1) c ∧ B ≤ g ∧ g < W.heap.size ∧ W.cell? ⟨g, n * 4 + 3, none⟩ = some nv ∧ W.frozen? ⟨g, n * 4 + 3, none⟩ = false := by
  obtain ⟨xs, h1, h2, h3⟩ := h
  rw [hn] at h1
  rcases h1.2 with ⟨_, hn⟩ | ⟨g, cap, cur, rfl, hb, hg, _⟩
  · omega
  · exact ⟨g, cap, rfl, hb, (Array.getElem?_eq_some_iff.1 hg).1, by rw [h1.cellAt _ (by omega)]; exact h3 n (by omega), h1.frozenAt _⟩
/-- As the parser reads them. -/
theorem IRow.its {B : Nat} {W : World} {v nv : Value} {T : List Tk} (h : IRow B W v T nv) (hl : T.length ≤ 65536) (hok : ∀ t ∈ T, t.ok) : ∃ a c, v = .slice a T.length c ∧ Its W a T ∧ (∀ k, k < T.length → ∃ b o, a = some ⟨b, o, none⟩ ∧ B ≤ b ∧ b < W.heap.size ∧ ∃ p : Int, W.cell? ⟨b, o + k * 4 + 2, none⟩ = some (.int .i64 p)) := by
  obtain ⟨xs, h1, h2, h3⟩ := h
  rcases h1.2 with ⟨rfl, hn⟩ | ⟨g, cap, cur, rfl, hb, hg, _⟩
  · have hT : T = [] := List.eq_nil_of_length_eq_zero hn
    subst hT
    exact ⟨none, 0, rfl, ⟨fun h => absurd rfl h, hl, hok⟩, fun k hk => by simp at hk⟩
  · refine ⟨_, cap, rfl, ⟨fun _ => ⟨g, 0, rfl, (Array.getElem?_eq_some_iff.1 hg).1, fun k t ht => ?_⟩, hl, hok⟩, fun k hk => ?_⟩
    · have hk := (List.getElem?_eq_some_iff.1 ht).1
      obtain ⟨q0, q1, _⟩ := h2 k t ht
      rw [Nat.zero_add]
      exact ⟨by rw [h1.cellAt _ (by omega)]; exact q0, by rw [h1.cellAt _ (by omega)]; exact q1⟩
    · obtain ⟨_, _, p, q2⟩ := h2 k _ (List.getElem?_eq_getElem hk)
      exact ⟨g, 0, rfl, hb, (Array.getElem?_eq_some_iff.1 hg).1, p, by rw [Nat.zero_add, h1.cellAt _ (by omega)]; exact q2⟩
/-- The tokens of a row. -/
theorem TRow.get {B : Nat} {w : World} {a : Option Addr} {m c : Nat} {l : List Tk} (h : TRow B w (.slice a m c) l) {k : Nat} (hk : k < l.length) : ∃ g, a = some ⟨g, 0, none⟩ ∧ g < w.heap.size ∧ w.cell? ⟨g, k * 2, none⟩ = some (.int .i64 l[k].kind) ∧ w.cell? ⟨g, k * 2 + 1, none⟩ = some (.string l[k].text) := by
  have h' : w.ownsRow B 66 2 (.slice a m c) l.length (l.flatMap tokC) := h
  rcases h'.2 with ⟨_, hn⟩ | ⟨g, cap, cur, hv, hb, hg, _⟩
  · omega
  · cases hv
    have hf := flatMap_get tokC 2 (fun _ => rfl) l k l[k]
    refine ⟨g, rfl, (Array.getElem?_eq_some_iff.1 hg).1, ?_, ?_⟩
    · have := hf 0 (List.getElem?_eq_getElem hk) (by omega)
      rw [h'.cellAt _ (by omega)]
      exact this
    · rw [h'.cellAt _ (by omega), hf 1 (List.getElem?_eq_getElem hk) (by omega)]; rfl
end Go.Proofs.YtacgmmpdichlmaaGreat
namespace Go.Proofs.YtacgmmpdichlmaaGreat
open Go.RowKit
attribute [local go_sem ↓] Go.wp_at_zero Go.wp_at_succ

theorem filter_take {l : List Tk} {q : Nat} (h : q < l.length) : (l.take (q + 1)).filter plainB = (l.take q).filter plainB ++ (if plainB l[q] then [l[q]] else []) := by
  rw [List.take_succ_eq_append_getElem h, List.filter_append]
  congr 1
  rw [List.filter_cons]
  rfl
theorem filter_len (l : List Tk) (q : Nat) : ((l.take q).filter plainB).length ≤ q := Nat.le_trans (List.length_filter_le _ _) (by rw [List.length_take]; omega)
/-- The loop's state. -/
structure ItI (w : World) (q : Nat) (la : Option Addr) (n lc : Nat) (oa : Option Addr) (oc : Nat) (T : List Tk) (m : Nat) (nv : Value) (W : World) : Prop where
  lead : SRow w.heap.size W (.slice la n lc) n
  out : IRow w.heap.size W (.slice oa T.length oc) T nv
  notes : SRow w.heap.size W nv m
  n : n ≤ q
  m : m ≤ q
  t : T.length ≤ q
  below : Below w.heap.size w W
theorem ItI.next {w W W' : World} {q n lc oc m : Nat} {la oa : Option Addr} {T : List Tk} {nv : Value} (h : ItI w q la n lc oa oc T m nv W) (e : W' = W) : ItI w (q + 1) la n lc oa oc T m nv W' := by
  subst e
  exact ⟨h.lead, h.out, h.notes, by have := h.n; omega, by have := h.m; omega, by have := h.t; omega, h.below⟩
theorem ItI.call {w W W' : World} {q n lc oc m : Nat} {la oa : Option Addr} {T : List Tk} {nv : Value} (h : ItI w q la n lc oa oc T m nv W) (hb : Below W.heap.size W W') : ItI w q la n lc oa oc T m nv W' :=
  ⟨h.lead.below hb, h.out.below hb, h.notes.below hb, h.n, h.m, h.t, bl_call h.below hb⟩
/-- The other rows stay as append turns a row of another type. -/
theorem SRow.grown {B n : Nat} {W W' : World} {v : Value} {r : Option Nat} (h : SRow B W v n) (hg : W.grownBy W' r) (hne : v.ownBlock = none ∨ v.ownBlock ≠ r) : SRow B W' v n := by
  obtain ⟨zs, hz, ho⟩ := h
  exact ⟨zs, hz, ho.kept hg hne⟩
theorem own_ne {B n n' s s' : Nat} {W : World} {e e' : TypeId} {v v' : Value} {xs xs' : List Value} (h : W.ownsRow B e s v n xs) (h' : W.ownsRow B e' s' v' n' xs') (hne : e ≠ e') : v.ownBlock = none ∨ v.ownBlock ≠ v'.ownBlock := by
  rcases h.2 with ⟨rfl, _⟩ | ⟨g, cap, cur, rfl, _, hg, _⟩
  · exact Or.inl rfl
  · refine Or.inr fun e1 => ?_
    rcases h'.2 with ⟨rfl, _⟩ | ⟨g', cap', cur', rfl, _, hg', _⟩
    · simp [Value.ownBlock] at e1
    · simp only [Value.ownBlock, Option.some.injEq] at e1
      subst e1
      rw [hg] at hg'
      injection hg' with hg'
      injection hg' with _ h2
      exact hne h2
theorem IRow.grown {B : Nat} {W W' : World} {v nv : Value} {T : List Tk} {r : Option Nat} (h : IRow B W v T nv) (hg : W.grownBy W' r) (hne : v.ownBlock = none ∨ v.ownBlock ≠ r) : IRow B W' v T nv := by
  obtain ⟨xs, h1, h2⟩ := h
  exact ⟨xs, h1.kept hg hne, h2⟩
theorem ItI.snoc {w W : World} {q n lc oc m : Nat} {la oa : Option Addr} {T : List Tk} {nv : Value} (h : ItI w q la n lc oa oc T m nv W) (t : Tk) (p : Int) (hq : q ≤ 65536) :
    ∃ a c w1, (Builtin.append_ #[61, 61] 61 #[.slice oa T.length oc, .slice (some ⟨W.heap.size, 0, none⟩) 1 1]).run Tryz.prog (W.alloc (.cells #[.int .i64 t.kind, .string t.text, .int .i64 p, .slice none 0 0] 68)) = .ok (.slice a (T.length + 1) c) w1 ∧ ItI w (q + 1) la n lc a c (T ++ [t]) 0 (.slice none 0 0) w1 := by
  obtain ⟨a, c, w1, hr, h1, hb, hg⟩ := h.out.snoc t p (by have := h.t; omega) h.below.size
  obtain ⟨xs, ho, _⟩ := h.out
  obtain ⟨zs, hz, hl⟩ := h.lead
  exact ⟨a, c, w1, hr, ⟨⟨zs, hz, hl.kept hg (own_ne hl ho (by decide))⟩, by rw [List.length_append]; exact h1, SRow.nil _ _, by have := h.n; omega, by omega, by rw [List.length_append]; have := h.t; simp; omega, h.below.trans hb⟩⟩
theorem ItI.lead_ {w W : World} {q n lc oc m : Nat} {la oa : Option Addr} {T : List Tk} {nv : Value} (h : ItI w q la n lc oa oc T m nv W) (x : ByteArray) (hq : q ≤ 65536) (hT : T = []) :
    ∃ a c w1, (Builtin.append_ #[47, 47] 47 #[.slice la n lc, .slice (some ⟨W.heap.size, 0, none⟩) 1 1]).run Tryz.prog (W.alloc (.cells #[.string x] 9)) = .ok (.slice a (n + 1) c) w1 ∧ ItI w (q + 1) a (n + 1) c oa oc T 0 (.slice none 0 0) w1 := by
  obtain ⟨a, c, w1, hr, h1, hb, hg⟩ := str_push x h.lead (by have := h.n; omega) h.below.size
  obtain ⟨xs, ho, ho2, ho3⟩ := h.out
  obtain ⟨zs, hz, hl⟩ := h.lead
  subst hT
  exact ⟨a, c, w1, hr, ⟨h1, ⟨xs, ho.kept hg (own_ne ho hl (by decide)), ho2, by simp⟩, SRow.nil _ _, by have := h.n; omega, by omega, by simp, h.below.trans hb⟩⟩
/-- Notes more: what is known ahead of the store. -/
theorem ItI.note {w W : World} {q n lc oc m k : Nat} {la oa : Option Addr} {T : List Tk} {nv : Value} (h : ItI w q la n lc oa oc T m nv W) (x : ByteArray) (hq : q ≤ 65536) (hT : T.length = k + 1) :
    ∃ a c w1 a2 c2 w2 g, (Builtin.append_ #[47, 47] 47 #[.slice none 0 0, nv]).run Tryz.prog W = .ok (.slice a m c) w1 ∧
      (Builtin.append_ #[47, 47] 47 #[.slice a m c, .slice (some ⟨w1.heap.size, 0, none⟩) 1 1]).run Tryz.prog (w1.alloc (.cells #[.string x] 9)) = .ok (.slice a2 (m + 1) c2) w2 ∧ oa = some ⟨g, 0, none⟩ ∧ W.cell? ⟨g, k * 4 + 3, none⟩ = some nv ∧ Below W.heap.size W w1 ∧ Below W.heap.size W w2 ∧
      w2.cell? ⟨g, k * 4 + 3, none⟩ = some nv ∧ w2.frozen? ⟨g, k * 4 + 3, none⟩ = false ∧ ItI w (q + 1) la n lc oa oc T (m + 1) (.slice a2 (m + 1) c2) (w2.setCell ⟨g, k * 4 + 3, none⟩ (.slice a2 (m + 1) c2)) := by
  obtain ⟨a, c, w1, hr, h1, hb⟩ := str_copy h.notes (by have := h.m; omega)
  obtain ⟨a2, c2, w2, hr2, h2, hb2, _⟩ := str_push x h1 (by have := h.m; omega) hb.size
  obtain ⟨g, oc', hv, hgB, hgl, hc, hf⟩ := h.out.open_ hT
  rw [hT] at hv
  cases hv
  have hB2 : Below W.heap.size W w2 := hb.trans hb2
  have ho := h.out.below hB2
  rw [hT] at ho
  have hs2 := h2.mono h.below.size
  obtain ⟨xs, hx, _⟩ := ho
  obtain ⟨zs, hz, hl⟩ := h.lead.below hB2
  obtain ⟨zs2, hz2, hl2⟩ := hs2
  have hne : ∀ {v' : Value} {n' : Nat} {xs' : List Value}, w2.ownsRow w.heap.size 9 1 v' n' xs' → v'.ownBlock ≠ some g := fun h' => by
    rcases own_ne h' hx (by decide) with h3 | h3
    · rw [h3]; simp
    · exact h3
  refine ⟨a, c, w1, a2, c2, w2, g, hr, hr2, rfl, hc, hb, hB2, (hB2.cell (p := ⟨g, k * 4 + 3, none⟩) hgl).trans hc, (hB2.frozen (p := ⟨g, k * 4 + 3, none⟩) hgl).trans hf, ⟨⟨zs, hz, hl.setOther (hne hl) _ _⟩, ?_, ⟨zs2, hz2, hl2.setOther (hne hl2) _ _⟩, by have := h.n; omega, by have := h.m; omega, by have := h.t; omega, bl_st (bl_call h.below hB2) hgB _ _⟩⟩
  have := (h.out.below hB2)
  rw [hT] at this ⊢
  exact this.set hT
/-- What Items hands back. -/
def ItemsP (w : World) (l : List Tk) (r : Ending) (w' : World) : Prop :=
  (∃ (u : Value) (a : Option Addr) (c : Nat), r = .returned (.tuple #[u, .slice a (l.filter plainB).length c]) ∧ Its w' a (l.filter plainB) ∧ (∀ k, k < (l.filter plainB).length → ∃ b o, a = some ⟨b, o, none⟩ ∧ w.heap.size ≤ b ∧ b < w'.heap.size ∧ ∃ p : Int, w'.cell? ⟨b, o + k * 4 + 2, none⟩ = some (.int .i64 p))) ∧ Below w.heap.size w w'

set_option maxRecDepth 100000 in
set_option maxHeartbeats 8000000 in
theorem items_any {B : Nat} {w : World} {a : Option Addr} {c : Nat} {l : List Tk} (hT : TRow B w (.slice a l.length c) l) (hl : l.length ≤ 65536) (hok : ∀ t ∈ l, t.ok) : Calls Tryz.prog 42 #[.slice a l.length c] w (ItemsP w l) := by
  have HT := hide hT
  have HOK := hide hok
  clear hT hok
  go_enter Tryz.func42, Tryz.ntmps42
  go_wp2_with fail
  go_loopw [4, 5, 6, 7] (fun lv ov pv iv wr => ∃ (q p : Nat) (la : Option Addr) (n lc : Nat) (oa : Option Addr) (oc m k : Nat) (nv : Value), lv = .slice la n lc ∧ ov = .slice oa k oc ∧ pv = .int .i64 p ∧ iv = .int .i64 q ∧ q ≤ l.length ∧ p ≤ q * 65536 ∧ ((l.take q).filter plainB).length = k ∧ ItI w q la n lc oa oc ((l.take q).filter plainB) m nv wr) (fun _ _ _ iv _ => l.length - (intOf iv).toNat)
  case atStart => exact ⟨0, 0, none, 0, 0, none, 0, 0, 0, .slice none 0 0, rfl, rfl, rfl, rfl, Nat.zero_le _, by omega, rfl, ⟨SRow.nil _ _, IRow.nil _ _ _, SRow.nil _ _, by omega, by omega, by simp, Below.refl _ _⟩⟩
  case round =>
    obtain ⟨q, p, la, n, lc, oa, oc, m, k, nv, rfl, rfl, rfl, rfl, hq, hp, hk, hI⟩ := hrel
    have HI := hide hI
    have HK := hide hk
    by_cases hlt : q < l.length
    · have hlti : (q : Int) < (l.length : Int) := by omega
      obtain ⟨g, rfl, hg, c0, c1⟩ := HT.out.get hlt
      have d0 := (hI.below.cell (p := ⟨g, q * 2, none⟩) hg).trans c0
      have d1 := (hI.below.cell (p := ⟨g, q * 2 + 1, none⟩) hg).trans c1
      have htk := HOK.out l[q] (List.getElem_mem hlt)
      have hft := filter_take hlt
      have hkq : k ≤ q := by have := hI.t; omega
      obtain ⟨t, ht⟩ : ∃ t, l[q] = t := ⟨_, rfl⟩
      rw [ht] at d0 d1 c0 c1 htk hft
      have C0 := hide c0
      have C1 := hide c1
      have HFT := hide hft
      have hts : t.text.size ≤ 65536 := htk.2.1
      have hfa := fieldT0 t.kind t.text
      clear hI hk ht htk hft c0 c1
      go_wp2_with fail
      refine (plainItem_any t wr).mono ?_
      rintro r w2 ⟨rfl, hb2⟩
      have HI2 := hide (HI.out.call hb2)
      replace d0 := (hb2.cell (p := ⟨g, q * 2, none⟩) (Nat.lt_of_lt_of_le hg HI.out.below.size)).trans d0
      replace d1 := (hb2.cell (p := ⟨g, q * 2 + 1, none⟩) (Nat.lt_of_lt_of_le hg HI.out.below.size)).trans d1
      clear hb2 HI
      by_cases hpl : plainB t = true
      · have e2 : (t.kind == 2) = false := by
          rw [plainB, Bool.and_eq_true] at hpl
          have := hpl.2
          simpa using this
        rw [hpl]
        have HPL := hide hpl
        obtain ⟨a2, c2, w3, hr3, hI3⟩ := HI2.out.snoc t p (by omega)
        have HI3 := hide hI3
        rw [HK.out] at hr3
        have f0 := (hI3.below.cell (p := ⟨g, q * 2, none⟩) hg).trans C0.out
        have f1 := (hI3.below.cell (p := ⟨g, q * 2 + 1, none⟩) hg).trans C1.out
        clear hI3 hpl
        go_wp2_with (first | (at_builtin; refine wpList_app rfl _ _ (by rfl) (by rfl) (by rfl) (by rfl) hr3 ?_) | (refine stopAt 32 ?_))
        refine ⟨?_⟩
        clear hr3 d0 d1 HI2
        go_wp2_with fail
        go_roundw
        case rel =>
          have hh := HFT.out
          rw [HPL.out, if_pos rfl] at hh
          have h3 := HI3.out
          rw [← hh] at h3
          have hkk : ((l.take (q + 1)).filter plainB).length = k + 1 := by rw [hh, List.length_append, HK.out]; rfl
          exact ⟨q + 1, p + t.text.size, _, _, _, _, _, _, k + 1, _, rfl, rfl, by go_num, by go_num, by omega, by omega, hkk, h3⟩
        case measure => simp [intOf]; omega
      · have hpf : plainB t = false := by simpa using hpl
        rw [hpf]
        have hsame : (l.take (q + 1)).filter plainB = (l.take q).filter plainB := by rw [HFT.out, hpf, if_neg (by simp), List.append_nil]
        have HSM := hide hsame
        clear hpl hpf hsame
        by_cases h2 : t.kind = 2
        · have e2 : (t.kind == 2) = true := by simpa using h2
          clear h2
          by_cases hk0 : k = 0
          · subst hk0
            obtain ⟨a2, c2, w3, hr3, hI3⟩ := HI2.out.lead_ t.text (by omega) (List.eq_nil_of_length_eq_zero HK.out)
            have HI3 := hide hI3
            have f0 := (hI3.below.cell (p := ⟨g, q * 2, none⟩) hg).trans C0.out
            have f1 := (hI3.below.cell (p := ⟨g, q * 2 + 1, none⟩) hg).trans C1.out
            clear hI3
            go_wp2_with (first | (at_builtin; refine wpList_app rfl _ _ (by rfl) (by rfl) (by rfl) (by rfl) hr3 ?_) | (refine stopAt 51 ?_))
            refine ⟨?_⟩
            clear hr3 d0 d1 HI2
            go_wp2_with fail
            go_roundw
            case rel =>
              have h3 := HI3.out
              rw [← HSM.out] at h3
              exact ⟨q + 1, p + t.text.size, _, _, _, _, _, _, 0, _, rfl, rfl, by go_num, by go_num, by omega, by omega, by rw [HSM.out]; exact HK.out, h3⟩
            case measure => simp [intOf]; omega
          · obtain ⟨k1, rfl⟩ : ∃ k1, k = k1 + 1 := ⟨k - 1, by omega⟩
            have hkb : ((k1 : Int) + 1 == 0) = false := by simp; omega
            have hkc : (0 : Int) < (k1 : Int) + 1 := by omega
            have hk1 : k1 ≤ 65536 := by omega
            obtain ⟨a2, c2, w3, a4, c4, w4, go, hr3, hr4, rfl, hcn, hb3, hb4, hcn4, hfn4, hI5⟩ := HI2.out.note t.text (by omega) HK.out
            obtain ⟨na, nc, rfl⟩ := HI2.out.notes.form
            have HI5 := hide hI5
            have hgs : g < w2.heap.size := Nat.lt_of_lt_of_le hg HI2.out.below.size
            have d3 := (hb3.cell (p := ⟨g, q * 2 + 1, none⟩) hgs).trans d1
            have d4 := (hb4.cell (p := ⟨g, q * 2 + 1, none⟩) hgs).trans d1
            have f1 := (hI5.below.cell (p := ⟨g, q * 2 + 1, none⟩) hg).trans C1.out
            clear hI5 hb3 hb4
            go_wp2_with (first | (at_builtin; refine wpList_app rfl _ _ (by rfl) (by rfl) (by rfl) (by rfl) hr3 ?_) | (refine stopAt 73 ?_))
            refine ⟨?_⟩
            clear hr3
            go_wp2_with (first | (at_builtin; refine wpList_app rfl _ _ (by rfl) (by rfl) (by rfl) (by rfl) hr4 ?_) | (refine stopAt 81 ?_))
            refine ⟨?_⟩
            clear hr4 d0 d1 d3 HI2 hcn
            go_wp2_with fail
            go_roundw
            case rel =>
              have h3 := HI5.out
              rw [← HSM.out] at h3
              exact ⟨q + 1, p + t.text.size, _, _, _, _, _, _, k1 + 1, _, rfl, rfl, by go_num, by go_num, by omega, by omega, by rw [HSM.out]; exact HK.out, h3⟩
            case measure => simp [intOf]; omega
        · have e2 : (t.kind == 2) = false := by simpa using h2
          clear h2
          go_wp2_with fail
          go_roundw
          case rel =>
            have h3 := HI2.out.next rfl
            rw [← HSM.out] at h3
            exact ⟨q + 1, p + t.text.size, _, _, _, _, _, _, k, _, rfl, rfl, by go_num, by go_num, by omega, by omega, by rw [HSM.out]; exact HK.out, h3⟩
          case measure => simp [intOf]; omega
    · have hlti : ¬ (q : Int) < (l.length : Int) := by omega
      have he : (l.take q).filter plainB = l.filter plainB := by rw [List.take_of_length_le (by omega)]
      clear hI hk
      go_wp2_with fail
      go_ret2
      have hI := HI.out
      have hk := HK.out
      rw [he] at hI hk
      subst hk
      obtain ⟨a', c', hv, hits, hpl⟩ := hI.out.its (by have := hI.t; omega) (fun t ht => HOK.out t ((List.mem_filter.1 ht).1))
      cases hv
      exact ⟨⟨_, _, _, rfl, hits, hpl⟩, hI.below⟩
end Go.Proofs.YtacgmmpdichlmaaGreat
namespace Go.Proofs.YtacgmmpdichlmaaGreat
open Go.RowKit
attribute [local go_sem ↓] Go.wp_at_zero Go.wp_at_succ

theorem ended_nii {fn : Func} {p q r : Tmp} {tmps : Array Value} {W : World} {R : Ending → World → Prop} {g : Nat} {x0 x1 x2 y z : Value} (hr : fn.results = #[.cell p 24, .tmp q, .tmp r]) (hp : tmps.getD p undef = .pointer (some ⟨g, 0, none⟩)) (hq : tmps.getD q undef = y) (hz : tmps.getD r undef = z)
    (h0 : Blk W g 24 #[x0, x1, x2]) (hd : R (.returned (.tuple #[.agg #[x0, x1, x2], y, z])) W) : bodyPost Tryz.prog fn R .ret { tmps := tmps, defers := [] } W := by
  refine bodyPost_ret (v := .tuple #[.agg #[x0, x1, x2], y, z]) ?_ rfl hd
  have e0 := run_loadVar_row (P := Tryz.prog) W g 24 24 _ (0, 0) _ h0 Tryz.underlying24 rfl (by kernel_rfl)
  simp only [Array.getD_eq_getD_getElem?] at hp hq hz
  simp [results, hr, hp, hq, hz, asAddr, e0]
end Go.Proofs.YtacgmmpdichlmaaGreat
namespace Go.Proofs.YtacgmmpdichlmaaGreat
open Go.RowKit
attribute [local go_sem ↓] Go.wp_at_zero Go.wp_at_succ

/-- What Program, and Source, hand back. -/
def ProgP (N : Nat) (w : World) (r : Ending) (w' : World) : Prop :=
  (∃ (d : Nd) (k : Int) (s : ByteArray) (y : Option Addr) (m c : Nat) (e : Int) (p : Nat), r = .returned (.tuple #[.agg #[.int .i64 k, .string s, .slice y m c], .int .i64 e, .int .i64 p]) ∧
    IsNd w' (New w.heap.size w') d (.agg #[.int .i64 k, .string s, .slice y m c]) ∧ d.count ≤ N) ∧ Below w.heap.size w w'
def SrcP (w : World) (r : Ending) (w' : World) : Prop :=
  (∃ (d : Nd) (k : Int) (s : ByteArray) (y : Option Addr) (m c : Nat) (e p : Int), r = .returned (.tuple #[.agg #[.int .i64 k, .string s, .slice y m c], .int .i64 e, .int .i64 p]) ∧
    IsNd w' (New w.heap.size w') d (.agg #[.int .i64 k, .string s, .slice y m c]) ∧ d.count ≤ 600000) ∧ Below w.heap.size w w'
theorem program_zero {l : List Tk} {a : Option Addr} {cap : Nat} {w : World} (hi : Its w a l) : Calls Tryz.prog 58 #[.agg #[.slice a l.length cap, .int .i64 0, .bool false]] w (PN l a cap w 0 false 3) := program_any (i := 0) (bad := false) hi (Nat.zero_le _)

set_option maxRecDepth 4000 in
set_option maxHeartbeats 4000000 in
theorem prog_any {l : List Tk} {a : Option Addr} {cap : Nat} {w : World} (hi : Its w a l) : Calls Tryz.prog 43 #[.slice a l.length cap] w (ProgP (8 * l.length + 3) w) := by
  have hlen := hi.2.1
  go_enter Tryz.func43, Tryz.ntmps43
  go_wp2_with fail
  refine named fun W1 hW1 => ?_
  have HS1 := onS hW1 (St.nil w).va
  clear hW1
  refine (deep_any (hi.below HS1.out.below)).mono ?_
  rintro e w2 ⟨⟨z, rfl, hz1, hz2, hz3⟩, hb2⟩
  have HS2 := hide (HS1.out.call hb2)
  clear hb2 HS1
  have p0 := rD HS2
  by_cases h0 : 0 ≤ z
  ·
   obtain ⟨zn, rfl⟩ : ∃ zn : Nat, z = zn := ⟨z.toNat, by omega⟩
   go_wp2_with fail
   refine namedPost fun W3 hW3 => ?_
   have HS3 := onS hW3 (HS2.out.st3 0 rfl _ _ _)
   clear hW3 HS2
   clear p0
   have HNr4 := hide (show Nx w W3 [w.heap.size] (Nd.mk 0 ⟨#[]⟩ .nil) (.agg #[.int .i64 0, .string ⟨#[]⟩, .slice none 0 0]) from Nx.leaf (by omega) (by decide))
   refine namedPost fun W5 hW5 => ?_
   have HS5 := hide (St.onto hW5 HS3.out)
   have HNr5 := hide (Nx.onto hW5 HNr4.out)
   clear HNr4
   clear hW5 HS3
   exact ended_nii rfl rfl rfl rfl (HS5.out.get 0 rfl) ⟨⟨_, _, _, _, _, _, 21, zn, rfl, HNr5.out.out, (by rw [cntLeaf]; omega)⟩, HS5.out.below⟩
  go_wp2_with fail
  refine (program_zero (hi.below HS2.out.below)).mono ?_
  rintro e w6 ⟨⟨i6, bad6, d6, k6, s6, y6, m6, c6, rfl, hn6, ⟨hi6, hl6, hp6⟩, hc6⟩, hb6⟩
  have HS6 := hide (HS2.out.call hb6)
  have HNn6 := hide (show Nx w w6 [w.heap.size] _ _ from Nx.made hn6 HS2.out)
  clear hn6 hb6 HS2
  clear p0
  have p0 := rD HS6
  cases bad6
  case true =>
   clear p0
   have p0 := rD HS6
   go_wp2_with fail
   have lv7 := lV HS6
   refine namedWp fun W7 hW7 => ?_
   have HS7 := onS hW7 HS6.out.va.va
   have HNn7 := hide (Nx.onto hW7 ((HNn6.out.var (g := w6.heap.size) (by simp) _).var (g := w6.heap.size + 1) (by simp) _))
   clear HNn6
   clear hW7 HS6
   clear p0
   refine rgn HS7.out [1] fun W8 hW8 => ?_
   have HS8 := hide (St.onto hW8 HS7.out.dr)
   have HNn8 := hide (Nx.onto hW8 HNn7.out.dr)
   clear HNn7
   clear hW8 HS7
   refine tK 0 (kS HS8.out [1]) ?_
   refine tK 1 (kS HS8.out [1]) ?_
   refine tK 2 (kS HS8.out [1]) ?_
   refine rY 3 fun K hK => ?_
   have p0 := rG HS8 0
   go_simp
   refine onW hK (kS (HS8.out.st3 0 rfl _ _ _) [1]) fun W9 hW9 => ?_
   clear hK K
   have HS9 := onS hW9 (HS8.out.st3 0 rfl _ _ _)
   have HNn9 := hide (Nx.onto hW9 (HNn8.out.st3 (by simp) _ _ _))
   clear HNn8
   clear hW9 HS8
   clear p0
   refine tK 4 (kS HS9.out [1]) ?_
   refine tK 5 (kS HS9.out [1]) ?_
   refine wpAnyH_done (by kernel_rfl) ?_ _
   go_wp2_with fail
   refine namedPost fun W10 hW10 => ?_
   have HS10 := hide (St.onto hW10 HS9.out)
   have HNn10 := hide (Nx.onto hW10 HNn9.out)
   clear HNn9
   clear hW10 HS9
   have HNr11 := hide (show Nx w W10 [w.heap.size, w6.heap.size, w6.heap.size + 1] (Nd.mk 0 ⟨#[]⟩ .nil) (.agg #[.int .i64 0, .string ⟨#[]⟩, .slice none 0 0]) from Nx.leaf (by omega) (by decide))
   refine namedPost fun W12 hW12 => ?_
   have HS12 := hide (St.onto hW12 HS10.out)
   have HNn12 := hide (Nx.onto hW12 HNn10.out)
   have HNr12 := hide (Nx.onto hW12 HNr11.out)
   clear HNn10 HNr11
   clear hW12 HS10
   exact ended_nii rfl rfl rfl rfl (HS12.out.get 0 rfl) ⟨⟨_, _, _, _, _, _, 22, i6, rfl, HNr12.out.out, (by rw [cntLeaf]; omega)⟩, HS12.out.below⟩
  clear p0
  have p0 := rD HS6
  go_wp2_with fail
  have lv13 := lV HS6
  refine namedPost fun W13 hW13 => ?_
  have HS13 := onS hW13 (HS6.out.st3 0 rfl _ _ _).va.va
  have HNr13 := hide (Nx.onto hW13 (((HNn6.out.st3 (by simp) _ _ _).var (g := w6.heap.size) (by simp) _).var (g := w6.heap.size + 1) (by simp) _))
  clear HNn6
  clear hW13 HS6
  clear p0
  exact ended_nii rfl rfl rfl rfl (HS13.out.get 0 rfl) ⟨⟨_, _, _, _, _, _, 0, 0, rfl, HNr13.out.out, by omega⟩, HS13.out.below⟩

theorem isEmptyNd {w : World} {G : Nat → Prop} : IsNd w G (.mk 0 ⟨#[]⟩ .nil) (.agg #[.int .i64 0, .string ⟨#[]⟩, .slice none 0 0]) := IsNd.leaf (by omega) (by decide)
set_option maxRecDepth 4000 in
set_option maxHeartbeats 4000000 in
theorem source_any (s : ByteArray) (w : World) : Calls Tryz.prog 22 #[.string s] w (SrcP w) := by
  go_enter Tryz.func22, Tryz.ntmps22
  go_wp2_with fail
  refine named fun W1 hW1 => ?_
  have HS1 := onS hW1 (St.nil w).va
  clear hW1
  refine (tokens_any s _).mono ?_
  rintro e w2 ⟨⟨v, l, e0, p0, rfl, hT, hl, hok⟩, hb2⟩
  have HS2 := hide (HS1.out.call hb2)
  clear hb2 HS1
  have hrl := (HS2.out.get 0 rfl).lt
  obtain ⟨va, vc, rfl⟩ := hT.form
  have HT := hide hT
  have HOK := hide hok
  clear hT hok
  by_cases he0 : e0 = 0
  ·
   subst he0
   have p0 := rD HS2
   go_wp2_with fail
   refine (items_any HT.out hl HOK.out).mono ?_
   rintro e w3 ⟨⟨u, ia, ic, rfl, hits, hat⟩, hb3⟩
   have HS3 := hide (HS2.out.call hb3)
   clear hb3 HS2
   clear p0
   have hlf : (l.filter plainB).length ≤ 65536 := Nat.le_trans (List.length_filter_le _ _) hl
   obtain ⟨lf, hlf2⟩ : ∃ lf, l.filter plainB = lf := ⟨_, rfl⟩
   rw [hlf2] at hits hat hlf ⊢
   have HIT := hide hits
   have HAT := hide hat
   clear hits hat hlf2 HT HOK
   have p0 := rD HS3
   go_wp2_with fail
   refine (prog_any HIT.out).mono ?_
   rintro r w4 ⟨⟨d4, k4, s4, y4, m4, c4, e4, i4, rfl, hn4, hc4⟩, hb4⟩
   have HS4 := hide (HS3.out.call hb4)
   have HNn4 := hide (show Nx w w4 [w.heap.size] _ _ from Nx.made hn4 HS3.out)
   have HB4 := hide hb4
   clear hn4 hb4 HS3
   clear p0
   have p0 := rD HS4
   by_cases he1 : e4 = 0
   ·
    subst he1
    go_wp2_with fail
    have lv5 := lV HS4
    refine namedPost fun W5 hW5 => ?_
    have HS5 := onS hW5 (HS4.out.st3 0 rfl _ _ _).va
    have HNr5 := hide (Nx.onto hW5 ((HNn4.out.st3 (by simp) _ _ _).var (g := w4.heap.size) (by simp) _))
    clear HNn4
    clear hW5 HS4
    clear p0
    exact ended_nii rfl rfl rfl rfl (HS5.out.get 0 rfl) ⟨⟨_, _, _, _, _, _, 0, 0, rfl, HNr5.out.out, by omega⟩, HS5.out.below⟩
   have hee : (e4 == 0) = false := by simpa using he1
   clear he1
   by_cases hlt : i4 < lf.length
   ·
    have hlti : ¬ (lf.length : Int) ≤ (i4 : Int) := by omega
    have hltj : (i4 : Int) < (lf.length : Int) := by omega
    obtain ⟨ib, io, rfl, hib1, hib2, ip, hcell⟩ := HAT.out i4 hlt
    have hcell2 := (HB4.out.cell (p := ⟨ib, io + i4 * 4 + 2, none⟩) hib2).trans hcell
    have hibl : ib < w4.heap.size := Nat.lt_of_lt_of_le hib2 HB4.out.size
    go_wp2_with fail
    have HCat0 := hide hcell2
    have hibr : ib ≠ w.heap.size := by omega
    have lv6 := lV HS4
    refine namedWp fun W6 hW6 => ?_
    have HS6 := onS hW6 HS4.out.va
    have HCat6 := hide (onto_cell hW6 (alloc_cell hibl HCat0.out _))
    clear HCat0
    have HNn6 := hide (Nx.onto hW6 (HNn4.out.var (g := w4.heap.size) (by simp) _))
    clear HNn4
    clear hW6 HS4
    clear p0
    refine namedWp fun W7 hW7 => ?_
    have HS7 := hide (St.onto hW7 HS6.out)
    have HCat7 := hide (onto_cell hW7 HCat6.out)
    clear HCat6
    have HNn7 := hide (Nx.onto hW7 HNn6.out)
    clear HNn6
    clear hW7 HS6
    refine wp_region_held_drew (S := fun w' => (w'.cell? ⟨ib, io + i4 * 4 + 2, none⟩ = some (.int .i64 ip))) (by kernel_rfl) ?_ (fun hHeld => ?_)
    · exact HCat7.out
    refine namedAny fun W8 hW8 => ?_
    have HS8 := hide (St.onto hW8 HS7.out.dr)
    have HCat8 := hide (onto_cell hW8 (dr_cell HCat7.out))
    clear HCat7
    have HNn8 := hide (Nx.onto hW8 HNn7.out.dr)
    clear HNn7
    clear hW8 HS7
    have hSn := HCat8.out
    clear hHeld
    refine tC 0 (by assumption) ?_
    refine tC 1 (by assumption) ?_
    refine tC 2 (by assumption) ?_
    refine tC 3 (by assumption) ?_
    refine tC 4 (by assumption) ?_
    refine tC 5 (by assumption) ?_
    refine tC 6 (by assumption) ?_
    refine rY 7 fun K hK => ?_
    clear hSn
    have p0 := rG HS8 0
    go_simp
    refine onW hK ((st3_cell hibr HCat8.out _ _ _)) fun W9 hW9 => ?_
    clear hK K
    have HS9 := onS hW9 (HS8.out.st3 0 rfl _ _ _)
    have HCat9 := hide (onto_cell hW9 (st3_cell hibr HCat8.out _ _ _))
    clear HCat8
    have HNn9 := hide (Nx.onto hW9 (HNn8.out.st3 (by simp) _ _ _))
    clear HNn8
    clear hW9 HS8
    clear p0
    have hSn := HCat9.out
    refine tC 8 (by assumption) ?_
    refine tC 9 (by assumption) ?_
    refine wpAnyH_done (by kernel_rfl) ?_ _
    clear hSn
    go_wp2_with fail
    refine namedPost fun W10 hW10 => ?_
    have HS10 := hide (St.onto hW10 HS9.out)
    have HCat10 := hide (onto_cell hW10 HCat9.out)
    clear HCat9
    have HNn10 := hide (Nx.onto hW10 HNn9.out)
    clear HNn9
    clear hW10 HS9
    have HNr11 := hide (show Nx w W10 [w.heap.size, w4.heap.size] (Nd.mk 0 ⟨#[]⟩ .nil) (.agg #[.int .i64 0, .string ⟨#[]⟩, .slice none 0 0]) from Nx.leaf (by omega) (by decide))
    refine namedPost fun W12 hW12 => ?_
    have HS12 := hide (St.onto hW12 HS10.out)
    have HCat12 := hide (onto_cell hW12 HCat10.out)
    clear HCat10
    have HNn12 := hide (Nx.onto hW12 HNn10.out)
    have HNr12 := hide (Nx.onto hW12 HNr11.out)
    clear HNn10 HNr11
    clear hW12 HS10
    exact ended_nii rfl rfl rfl rfl (HS12.out.get 0 rfl) ⟨⟨_, _, _, _, _, _, e4, ip, rfl, HNr12.out.out, (by rw [cntLeaf]; omega)⟩, HS12.out.below⟩
   have hlti : (lf.length : Int) ≤ (i4 : Int) := by omega
   go_wp2_with fail
   have lv13 := lV HS4
   refine namedPost fun W13 hW13 => ?_
   have HS13 := onS hW13 (HS4.out.st3 0 rfl _ _ _).va
   have HNn13 := hide (Nx.onto hW13 ((HNn4.out.st3 (by simp) _ _ _).var (g := w4.heap.size) (by simp) _))
   clear HNn4
   clear hW13 HS4
   clear p0
   have HNr14 := hide (show Nx w W13 [w.heap.size, w4.heap.size] (Nd.mk 0 ⟨#[]⟩ .nil) (.agg #[.int .i64 0, .string ⟨#[]⟩, .slice none 0 0]) from Nx.leaf (by omega) (by decide))
   refine namedPost fun W15 hW15 => ?_
   have HS15 := hide (St.onto hW15 HS13.out)
   have HNn15 := hide (Nx.onto hW15 HNn13.out)
   have HNr15 := hide (Nx.onto hW15 HNr14.out)
   clear HNn13 HNr14
   clear hW15 HS13
   exact ended_nii rfl rfl rfl rfl (HS15.out.get 0 rfl) ⟨⟨_, _, _, _, _, _, e4, _, rfl, HNr15.out.out, (by rw [cntLeaf]; omega)⟩, HS15.out.below⟩
  have hne0 : (e0 != 0) = true := by simpa using he0
  clear he0
  have p0 := rD HS2
  go_wp2_with fail
  refine namedPost fun W16 hW16 => ?_
  have HS16 := onS hW16 (HS2.out.st3 0 rfl _ _ _)
  clear hW16 HS2
  clear p0
  have HNr17 := hide (show Nx w W16 [w.heap.size] (Nd.mk 0 ⟨#[]⟩ .nil) (.agg #[.int .i64 0, .string ⟨#[]⟩, .slice none 0 0]) from Nx.leaf (by omega) (by decide))
  refine namedPost fun W18 hW18 => ?_
  have HS18 := hide (St.onto hW18 HS16.out)
  have HNr18 := hide (Nx.onto hW18 HNr17.out)
  clear HNr17
  clear hW18 HS16
  exact ended_nii rfl rfl rfl rfl (HS18.out.get 0 rfl) ⟨⟨_, _, _, _, _, _, e0, p0, rfl, HNr18.out.out, (by rw [cntLeaf]; omega)⟩, HS18.out.below⟩
end Go.Proofs.YtacgmmpdichlmaaGreat
namespace Go.Proofs.YtacgmmpdichlmaaGreat
open Go.RowKit
attribute [local go_sem ↓] Go.wp_at_zero Go.wp_at_succ

section
variable {B g : Nat} {a : Option Addr} {m cap : Nat} {c : List Int} {W X : World} {n : Int} {N : Nat}
theorem Kg.step (K : Kg B g a m cap c W n N) (hn : n + 1 ≤ 1000) (hN : 10 * N ≤ 1000000000) : Kg B g a m cap c W (n + 1) (10 * N) :=
  ⟨Nat.le_trans K.lo (by omega), hN, hn, fun d h0 h1 h => gpipe (hide K) h d h0 (by omega), fun d h0 h1 h => gpost (hide K) h d h0 (by omega)⟩
theorem kg_start : Kg B g a m cap c W (-2) 40 := ⟨by omega, by omega, by omega, fun d h0 h1 => by omega, fun d h0 h1 => by omega⟩
theorem kg_five : Kg B g a m cap c W 5 400000000 :=
  ((((((kg_start.step (by omega) (by omega)).step (by omega) (by omega)).step (by omega) (by omega)).step (by omega) (by omega)).step (by omega) (by omega)).step (by omega) (by omega)).step (by omega) (by omega)
/-- Some text; nothing old turns. -/
def TextP (w : World) (e : Ending) (w' : World) : Prop := (∃ s : ByteArray, e = .returned (.string s)) ∧ Below w.heap.size w w'
end
set_option maxRecDepth 100000 in
set_option maxHeartbeats 4000000 in
theorem lawSource_any (a : Option Addr) (m cap : Nat) (c : List Int) (w : World) (hI : IsBytes w (· < w.heap.size) a m c) : Calls Tryz.prog 24 #[.slice a m cap] w (TextP w) := by
  have hs : GS w.heap.size w.heap.size a m cap c (w.alloc (.cells #[.slice a m cap, .int .i64 0] 71)) := ⟨Nat.le_refl _, ⟨0, Nat.zero_le _, Blk.new w _ _⟩, hI.keep fun b hb => ⟨hb, Below.heap_alloc w _ b hb⟩⟩
  have K := hide (kg_five (B := w.heap.size) (g := w.heap.size) (a := a) (m := m) (cap := cap) (c := c) (W := w.alloc (.cells #[.slice a m cap, .int .i64 0] 71)))
  have HB := hide ((Below.refl w.heap.size w).alloc (Nat.le_refl _) (.cells #[.slice a m cap, .int .i64 0] 71))
  have HG := hide hs.refl
  clear hI hs
  go_enter Tryz.func24, Tryz.ntmps24
  go_wp2_with fail
  refine (gnext HG.out 12).mono ?_
  rintro e X1 ⟨⟨r, rfl, hr0, hr1⟩, hX1⟩
  by_cases h0 : r = 0
  · subst h0
    go_wp2_with fail
    refine (K.out.pipe 5 (by omega) (by omega) hX1).mono ?_
    rintro e X2 ⟨⟨s2, rfl, h2⟩, hX2⟩
    go_wp2_with fail
    go_ret
    exact ⟨⟨_, rfl⟩, HB.out.trans hX2.gb.below⟩
  · by_cases h1 : r = 1
    · subst h1
      go_wp2_with fail
      refine (K.out.pipe 5 (by omega) (by omega) hX1).mono ?_
      rintro e X2 ⟨⟨s2, rfl, h2⟩, hX2⟩
      go_wp2_with fail
      go_ret
      exact ⟨⟨_, rfl⟩, HB.out.trans hX2.gb.below⟩
    · by_cases h2 : r = 2
      · subst h2
        go_wp2_with fail
        refine (K.out.pipe 3 (by omega) (by omega) hX1).mono ?_
        rintro e X2 ⟨⟨s2, rfl, h2⟩, hX2⟩
        go_wp2_with fail
        refine (K.out.pipe 3 (by omega) (by omega) hX2).mono ?_
        rintro e X3 ⟨⟨s3, rfl, h3⟩, hX3⟩
        go_wp2_with fail
        go_ret
        exact ⟨⟨_, rfl⟩, HB.out.trans hX3.gb.below⟩
      · go_wp2_with fail
        refine (K.out.pipe 5 (by omega) (by omega) hX1).mono ?_
        rintro e X2 ⟨⟨s2, rfl, h2⟩, hX2⟩
        go_wp2_with fail
        go_ret
        exact ⟨⟨_, rfl⟩, HB.out.trans hX2.gb.below⟩
theorem IsBytes.take {w : World} {F : Nat → Prop} {a : Option Addr} {n : Nat} {c : List Int} (h : IsBytes w F a n c) (k : Nat) (hk : k ≤ n) : IsBytes w F a k (c.take k) := by
  obtain ⟨h1, h2, h3, h4⟩ := h
  refine ⟨by rw [List.length_take]; omega, by omega, fun x hx => h3 x (List.mem_of_mem_take hx), fun hne => ?_⟩
  have hc : c ≠ [] := by intro e; subst e; simp at hne
  obtain ⟨b, o, ha, hb, hx⟩ := h4 hc
  exact ⟨b, o, ha, hb, fun q x hq => hx q x (by rw [List.getElem?_take] at hq; split at hq; exact hq; cases hq)⟩
/-- Some bytes; nothing old turns. -/
def BytesP (w : World) (e : Ending) (w' : World) : Prop := (∃ (a' : Option Addr) (m' cap' : Nat) (c' : List Int), e = .returned (.slice a' m' cap') ∧ IsBytes w' (· < w'.heap.size) a' m' c') ∧ Below w.heap.size w w'
set_option maxRecDepth 100000 in
set_option maxHeartbeats 4000000 in
theorem short_any (a : Option Addr) (m cap : Nat) (c : List Int) (w : World) (hI : IsBytes w (· < w.heap.size) a m c) (hcap : m ≤ cap) : Calls Tryz.prog 25 #[.slice a m cap] w (BytesP w) := by
  have hml := hI.2.1
  simp only [maxLen] at hml
  have HI := hide hI
  clear hI
  by_cases h60 : m ≤ 60
  · have h60i : (m : Int) ≤ 60 := by omega
    go_enter Tryz.func25, Tryz.ntmps25
    go_wp2_with fail
    go_ret
    exact ⟨⟨a, m, cap, c, rfl, HI.out⟩, Below.refl _ _⟩
  · have h60i : ¬ (m : Int) ≤ 60 := by omega
    go_enter Tryz.func25, Tryz.ntmps25
    go_wp2_with fail
    go_ret
    exact ⟨⟨a, 60, cap, c.take 60, rfl, HI.out.take 60 (by omega)⟩, Below.refl _ _⟩
theorem IsBytes.below {w w' : World} {a : Option Addr} {n : Nat} {c : List Int} (h : IsBytes w (· < w.heap.size) a n c) (hb : Below w.heap.size w w') : IsBytes w' (· < w'.heap.size) a n c := h.keep fun b hl => ⟨Nat.lt_of_lt_of_le hl hb.size, hb.block b hl⟩
/-- A node of its own, and whether there is one. -/
def ParsedP (w : World) (e : Ending) (w' : World) : Prop := (∃ (d : Nd) (k : Int) (s : ByteArray) (y : Option Addr) (m c : Nat) (ok : Bool), e = .returned (.tuple #[.agg #[.int .i64 k, .string s, .slice y m c], .bool ok]) ∧
    IsNd w' (New w.heap.size w') d (.agg #[.int .i64 k, .string s, .slice y m c]) ∧ d.count ≤ 600000) ∧ Below w.heap.size w w'
set_option maxRecDepth 100000 in
set_option maxHeartbeats 4000000 in
theorem parsed_any (a : Option Addr) (m cap : Nat) (c : List Int) (w : World) (hI : IsBytes w (· < w.heap.size) a m c) (hcap : m ≤ cap) : Calls Tryz.prog 9 #[.slice a m cap] w (ParsedP w) := by
  have HI := hide hI
  clear hI
  go_enter Tryz.func9, Tryz.ntmps9
  go_wp2_with fail
  refine named fun W1 hW1 => ?_
  have HS1 := onS hW1 (St.nil w).va
  clear hW1
  refine (short_any a m cap c W1 (HI.out.below HS1.out.below) hcap).mono ?_
  rintro e w2 ⟨⟨a2, m2, cap2, c2, rfl, hI2⟩, hb2⟩
  have HS2 := hide (HS1.out.call hb2)
  have HI2 := hide hI2
  clear hb2 hI2 HS1
  go_wp2_with fail
  refine (lawSource_any a2 m2 cap2 c2 w2 HI2.out).mono ?_
  rintro e w3 ⟨⟨s3, rfl⟩, hb3⟩
  have HS3 := hide (HS2.out.call hb3)
  clear hb3 HS2
  go_wp2_with fail
  refine (source_any s3 w3).mono ?_
  rintro e w6 ⟨⟨d6, k6, s6, y6, m6, c6, e6, p6, rfl, hn6, hc6⟩, hb6⟩
  have HS6 := hide (HS3.out.call hb6)
  have HNn6 := hide (show Nx w w6 [w.heap.size] _ _ from Nx.made hn6 HS3.out)
  clear hn6 hb6 HS3
  have p0 := rD HS6
  go_wp2_with fail
  refine namedPost fun W7 hW7 => ?_
  have HS7 := onS hW7 (HS6.out.st3 0 rfl _ _ _).va
  have HNn7 := hide (Nx.onto hW7 ((HNn6.out.st3 (by simp) _ _ _).var (g := w6.heap.size) (by simp) _))
  clear hW7 HNn6 HS6
  exact ended_nb rfl rfl rfl (HS7.out.get 0 rfl) ⟨⟨_, _, _, _, _, _, _, rfl, HNn7.out.out, hc6⟩, HS7.out.below⟩
end Go.Proofs.YtacgmmpdichlmaaGreat
namespace Go.Proofs.YtacgmmpdichlmaaGreat
open Go.RowKit
attribute [local go_sem ↓] Go.wp_at_zero Go.wp_at_succ

/-- A node, and no error. -/
def SE (w : World) (d : Nd) (r : Ending) (w' : World) : Prop :=
  (∃ (k : Int) (s : ByteArray) (y : Option Addr) (m c : Nat), r = .returned (.tuple #[.agg #[.int .i64 k, .string s, .slice y m c], .int .i64 0, .int .i64 0]) ∧
    IsNd w' (New w.heap.size w') d (.agg #[.int .i64 k, .string s, .slice y m c])) ∧ Below w.heap.size w w'
set_option maxRecDepth 4000 in
set_option maxHeartbeats 4000000 in
theorem prog_ex {l : List Tk} {a : Option Addr} {cap : Nat} {d : Nd} {w : World} (hi : Its w a l) (h256 : l.length ≤ 256) (hp : ∀ ⦃w : World⦄, Its w a l → Calls Tryz.prog 58 #[.agg #[.slice a l.length cap, .int .i64 0, .bool false]] w (PE l a cap w l.length d)) :
    Calls Tryz.prog 43 #[.slice a l.length cap] w (SE w d) := by
  have HP := hide hp
  clear hp
  go_enter Tryz.func43, Tryz.ntmps43
  go_wp2_with fail
  refine named fun W1 hW1 => ?_
  have HS1 := onS hW1 (St.nil w).va
  clear hW1
  refine (deep_any (hi.below HS1.out.below)).mono ?_
  rintro e w2 ⟨⟨z, rfl, -, -, hz3⟩, hb2⟩
  have HS2 := hide (HS1.out.call hb2)
  clear hb2 HS1
  have p0 := rD HS2
  obtain rfl := hz3 h256
  go_wp2_with fail
  refine (HP.out (hi.below HS2.out.below)).mono ?_
  rintro e w3 ⟨⟨k3, s3, y3, m3, c3, rfl, hn3⟩, hb3⟩
  have HS3 := hide (HS2.out.call hb3)
  have HNn3 := hide (show Nx w w3 [w.heap.size] _ _ from Nx.made hn3 HS2.out)
  clear hn3 hb3 HS2
  clear p0
  have p0 := rD HS3
  go_wp2_with fail
  have lv4 := lV HS3
  refine namedPost fun W4 hW4 => ?_
  have HS4 := onS hW4 (HS3.out.st3 0 rfl _ _ _).va.va
  have HNr4 := hide (Nx.onto hW4 (((HNn3.out.st3 (by simp) _ _ _).var (g := w3.heap.size) (by simp) _).var (g := w3.heap.size + 1) (by simp) _))
  clear HNn3
  clear hW4 HS3
  clear p0
  exact ended_nii rfl rfl rfl rfl (HS4.out.get 0 rfl) ⟨⟨_, _, _, _, _, rfl, HNr4.out.out⟩, HS4.out.below⟩

set_option maxRecDepth 4000 in
set_option maxHeartbeats 4000000 in
theorem source_ex (s : ByteArray) (w : World) (T : List Tk) (d : Nd) (hs : s.size ≤ 256) (hT : T.length = s.size) (ha : ∀ i (h : i < s.size), s[i].toNat < 128) (hz : ∀ t ∈ T, t.text.size = 1 ∧ (t.kind = 6 ∨ t.kind = 13))
    (hpl : ∀ (k : Nat) (h : k < T.length) (W : World), Calls Tryz.prog 68 #[.string (s.extract k s.size)] W fun e w' => e = .returned (.agg #[.int .i64 T[k].kind, .string T[k].text]) ∧ Below W.heap.size W w')
    (hp : ∀ (a : Option Addr) (cap : Nat) ⦃w : World⦄, Its w a T → Calls Tryz.prog 58 #[.agg #[.slice a T.length cap, .int .i64 0, .bool false]] w (PE T a cap w T.length d)) :
    Calls Tryz.prog 22 #[.string s] w (SE w d) := by
  have hfl : T.filter plainB = T := List.filter_eq_self.2 fun t ht => by
    rcases (hz t ht).2 with h | h <;> simp [plainB, h]
  have hok : ∀ t ∈ T, t.ok := fun t ht => by
    obtain ⟨h1, h2⟩ := hz t ht
    exact ⟨by omega, by omega, fun _ => by omega⟩
  have HTOK := hide (fun w => tokens_ex s w T (by omega) hT ha hz hpl)
  have HFL := hide hfl
  have HOK := hide hok
  have HTL := hide hT
  have HP := hide hp
  clear hfl hok ha hz hpl hp hT
  go_enter Tryz.func22, Tryz.ntmps22
  go_wp2_with fail
  refine named fun W1 hW1 => ?_
  have HS1 := onS hW1 (St.nil w).va
  clear hW1
  refine (HTOK.out _).mono ?_
  rintro e w2 ⟨⟨v, rfl, hT⟩, hb2⟩
  have HS2 := hide (HS1.out.call hb2)
  clear hb2 HS1
  obtain ⟨va, vc, rfl⟩ := hT.form
  have HT := hide hT
  clear hT
  have p0 := rD HS2
  go_wp2_with fail
  refine (items_any HT.out (by rw [HTL.out]; omega) HOK.out).mono ?_
  rintro e w3 ⟨⟨u, ia, ic, rfl, hits, -⟩, hb3⟩
  have HS3 := hide (HS2.out.call hb3)
  clear hb3 HS2
  clear p0
  rw [HFL.out] at hits ⊢
  have HIT := hide hits
  clear hits HT HOK
  have p0 := rD HS3
  go_wp2_with fail
  refine (prog_ex HIT.out (by rw [HTL.out]; omega) (fun _ h => HP.out ia ic h)).mono ?_
  rintro r w4 ⟨⟨k4, s4, y4, m4, c4, rfl, hn4⟩, hb4⟩
  have HS4 := hide (HS3.out.call hb4)
  have HNn4 := hide (show Nx w w4 [w.heap.size] _ _ from Nx.made hn4 HS3.out)
  clear hn4 hb4 HS3
  clear p0
  have p0 := rD HS4
  go_wp2_with fail
  have lv5 := lV HS4
  refine namedPost fun W5 hW5 => ?_
  have HS5 := onS hW5 (HS4.out.st3 0 rfl _ _ _).va
  have HNr5 := hide (Nx.onto hW5 ((HNn4.out.st3 (by simp) _ _ _).var (g := w4.heap.size) (by simp) _))
  clear HNn4
  clear hW5 HS4
  clear p0
  exact ended_nii rfl rfl rfl rfl (HS5.out.get 0 rfl) ⟨⟨_, _, _, _, _, rfl, HNr5.out.out⟩, HS5.out.below⟩

section
variable {l : List Tk} {a : Option Addr} {cap : Nat}
/-- A term alone is a pipe. -/
theorem pipe_of {i j : Nat} {d : Nd} (hlt : i < l.length) (hf : Fst (tokAt l i false)) (hg : Lst (tokAt l j false)) (ht : ∀ ⦃w : World⦄, Its w a l → Calls Tryz.prog 112 #[.agg #[.slice a l.length cap, .int .i64 i, .bool false]] w (PE l a cap w j d)) :
    ∀ ⦃w : World⦄, Its w a l → Calls Tryz.prog 72 #[.agg #[.slice a l.length cap, .int .i64 i, .bool false]] w (PE l a cap w j d) := fun _ h1 =>
  pipe_ex h1 hlt fun _ h2 => exp_ex h2 hlt (fun _ h3 => operand_ex h3 hlt (fun _ h4 => post_ex h4 hlt ht hg) hf hg) hg
theorem fst_num {s : ByteArray} : Fst ⟨6, s⟩ := ⟨Or.inl rfl, fun h => by cases h⟩
theorem fst_opn : Fst ⟨13, ⟨#[40]⟩⟩ := ⟨Or.inr rfl, fun _ => rfl⟩
theorem lst_cls : Lst ⟨13, ⟨#[41]⟩⟩ := ⟨Or.inr rfl, fun _ => rfl⟩
theorem lst_no : Lst Tk.no := ⟨Or.inl rfl, fun h => by cases h⟩
end
def tok1 : List Tk := [⟨6, ⟨#[49]⟩⟩]
def tok5 : List Tk := [⟨13, ⟨#[40]⟩⟩, ⟨13, ⟨#[40]⟩⟩, ⟨6, ⟨#[49]⟩⟩, ⟨13, ⟨#[41]⟩⟩, ⟨13, ⟨#[41]⟩⟩]
def nd1 : Nd := .mk 5 ⟨#[49]⟩ .nil
def nd5 : Nd := Nd.of 12 ⟨#[]⟩ [Nd.of 12 ⟨#[]⟩ [nd1]]
theorem prog1 (a : Option Addr) (cap : Nat) ⦃w : World⦄ (h : Its w a tok1) : Calls Tryz.prog 58 #[.agg #[.slice a tok1.length cap, .int .i64 0, .bool false]] w (PE tok1 a cap w tok1.length nd1) :=
  program_ex (i := 0) (j := 1) h (by decide) (pipe_of (by decide) fst_num lst_no fun _ h2 => term_num (j := 1) h2 (by decide) rfl rfl) fst_num rfl
theorem prog5 (a : Option Addr) (cap : Nat) ⦃w : World⦄ (h : Its w a tok5) : Calls Tryz.prog 58 #[.agg #[.slice a tok5.length cap, .int .i64 0, .bool false]] w (PE tok5 a cap w tok5.length nd5) := by
  have h2 := pipe_of (l := tok5) (a := a) (cap := cap) (i := 2) (j := 3) (d := nd1) (by decide) fst_num lst_cls fun _ h2 => term_num (j := 3) h2 (by decide) rfl rfl
  have h1 := pipe_of (l := tok5) (a := a) (cap := cap) (i := 1) (j := 4) (d := Nd.of 12 ⟨#[]⟩ [nd1]) (by decide) fst_opn lst_cls fun _ h3 => term_opn h3 (by decide) fst_opn (by decide) fun _ h4 => bracket_ex (j1 := 2) (j2 := 3) h4 (by decide) rfl (opB_yes rfl rfl) h2 (by decide) (opB_yes rfl rfl) rfl
  have h0 := pipe_of (l := tok5) (a := a) (cap := cap) (i := 0) (j := 5) (d := nd5) (by decide) fst_opn lst_no fun _ h3 => term_opn h3 (by decide) fst_opn (by decide) fun _ h4 => bracket_ex (j1 := 1) (j2 := 4) h4 (by decide) rfl (opB_yes rfl rfl) h1 (by decide) (opB_yes rfl rfl) rfl
  exact program_ex (i := 0) (j := 5) h (by decide) h0 fst_opn rfl
theorem source1 (w : World) : Calls Tryz.prog 22 #[.string ⟨#[49]⟩] w (SE w nd1) := by
  refine source_ex ⟨#[49]⟩ w tok1 nd1 (by decide) rfl (by decide) (by decide) (fun k h W => ?_) prog1
  match k, h with
  | 0, _ => exact plain_num _ W (by decide) (by decide) (by decide) (by decide)
theorem source5 (w : World) : Calls Tryz.prog 22 #[.string ⟨#[40, 40, 49, 41, 41]⟩] w (SE w nd5) := by
  refine source_ex ⟨#[40, 40, 49, 41, 41]⟩ w tok5 nd5 (by decide) rfl (by decide) (by decide) (fun k h W => ?_) prog5
  match k, h with
  | 0, _ => exact plain_opn _ W (by decide) (by decide) (by decide)
  | 1, _ => exact plain_opn _ W (by decide) (by decide) (by decide)
  | 2, _ => exact plain_num _ W (by decide) (by decide) (by decide) (by decide)
  | 3, _ => exact plain_opn _ W (by decide) (by decide) (by decide)
  | 4, _ => exact plain_opn _ W (by decide) (by decide) (by decide)
end Go.Proofs.YtacgmmpdichlmaaGreat
