/-
  The reference's operators: all, and the one at a text's front. Its condition: the text's length.
  The reference's piece of a string; its test on keys and plain names; one rune. Its condition: the text's length.
  The reference's tests: a word of the language's, a plain name: they answer. Its condition: the text's length.
  The reference's test on plain names, and its check that a text is of runes. Its condition: the text's length.
  The reference's check at a text of bytes below 128: all is right. Its condition: the text's length; its bytes.
  The operator at a text that begins with a bracket: one byte. Its condition: the text begins so.
  The parser's small methods: the token at hand, is it an operator's sign, a word; one further; wrong. Their condition: the parser's items lie in memory.
  Blocks that a call owns: made since its beginning, known whole. No condition.
  A function's variables that lie in memory, as one fact; nodes and rows of nodes beside them. No condition.
  Steps of a region that draws its order, in short. No condition.
  Rows of nodes that a function appends to, beside its variables. Its condition: a row has at most 1000000 nodes.
  The parser's methods that take a token: need, kind, one, name. Their condition: the parser's items lie in memory.
  The reference's table of operators: an operator's level, its side; the operator that a token is. Their condition: none but a text's length.
  What the parser's functions hand back: a place, and a node; what is known of those that are called with less to do. No condition.
-/
import Derived.Test.YtacgmmpdichlmaaGreatM01
import Derived.Test.YtacgmmpdichlmaaGreatM00
import Derived.Laws.Rows
import Derived.Outline
import Derived.Deep.RegionHeld3
import Derived.Deep.DrawnRows
namespace Go.Proofs.YtacgmmpdichlmaaGreat
open Go.RowKit

/-- The operators' signs. -/
def opersL : List ByteArray := [⟨#[63, 47, 47]⟩, ⟨#[47, 47, 61]⟩, ⟨#[33, 61]⟩, ⟨#[61, 61]⟩, ⟨#[60, 61]⟩, ⟨#[62, 61]⟩, ⟨#[124, 61]⟩, ⟨#[43, 61]⟩, ⟨#[45, 61]⟩, ⟨#[42, 61]⟩, ⟨#[47, 61]⟩, ⟨#[37, 61]⟩, ⟨#[47, 47]⟩, ⟨#[46, 46]⟩, ⟨#[46]⟩, ⟨#[91]⟩, ⟨#[93]⟩, ⟨#[40]⟩, ⟨#[41]⟩, ⟨#[123]⟩, ⟨#[125]⟩, ⟨#[44]⟩, ⟨#[58]⟩, ⟨#[59]⟩, ⟨#[61]⟩, ⟨#[124]⟩, ⟨#[43]⟩, ⟨#[45]⟩, ⟨#[42]⟩, ⟨#[47]⟩, ⟨#[37]⟩, ⟨#[60]⟩, ⟨#[62]⟩, ⟨#[63]⟩]
def opersC : Array Value := (opersL.map Value.string).toArray
theorem opersC_get {k : Nat} (h : k < 34) : opersC[k]? = some (.string (opersL[k]'h)) := by
  have h' : k < opersL.length := h
  simp only [opersC, List.getElem?_toArray, List.getElem?_map, List.getElem?_eq_getElem h', Option.map_some]
  rfl
theorem opers_any (w : World) : Calls Tryz.prog 98 #[] w fun e w' => e = .returned (.slice (some ⟨w.heap.size, 0, none⟩) 34 34) ∧ w' = w.alloc (.cells opersC 9) := by
  go_enter Tryz.func98, Tryz.ntmps98
  go_wp2_with fail
  go_ret
  exact ⟨rfl, rfl⟩
/-- Does the text begin so? -/
def matchB (s o : ByteArray) : Bool := decide (o.size ≤ s.size) && ((s.extract 0 o.size).toList == o.toList)
/-- What Oper tells. -/
def operP (s : ByteArray) (n : Nat) : Prop := (∃ o ∈ opersL, matchB s o = true ∧ n = o.size) ∨ (n = 0 ∧ ∀ o ∈ opersL, matchB s o = false)
theorem operP.le {s : ByteArray} {n : Nat} (h : operP s n) : n ≤ s.size := by
  rcases h with ⟨o, _, h, rfl⟩ | ⟨rfl, _⟩
  · simp only [matchB, Bool.and_eq_true, decide_eq_true_eq] at h
    exact h.1
  · exact Nat.zero_le _
set_option maxHeartbeats 2000000 in
theorem oper_any (s : ByteArray) (w : World) (_hs : s.size ≤ 65536) : Calls Tryz.prog 85 #[.string s] w fun e w' => (∃ n : Nat, e = .returned (.int .i64 n) ∧ operP s n) ∧ Below w.heap.size w w' := by
  go_enter Tryz.func85, Tryz.ntmps85
  go_wp2_with fail
  refine (opers_any w).mono ?_
  rintro e w1 ⟨rfl, hw1⟩
  have hB1 : Below w.heap.size w w1 := hw1 ▸ (Below.refl _ w).alloc (Nat.le_refl _) _
  have HB := hide (show Blk w1 w.heap.size 9 opersC from hw1 ▸ Blk.new w 9 opersC)
  clear hw1
  go_wp2_with fail
  go_loopw [4] (fun i wr => ∃ k j : Nat, i = .int .i64 k ∧ k ≤ 34 ∧ wr = w1.drewN j ∧ ∀ i (h : i < opersL.length), i < k → matchB s opersL[i] = false) (fun i _ => 34 - (intOf i).toNat)
  case atStart => exact ⟨0, 0, rfl, by omega, rfl, fun i _ h => absurd h (Nat.not_lt_zero i)⟩
  case round =>
    obtain ⟨k, j, rfl, hk, rfl, hno⟩ := hrel
    have HN := hide hno
    clear hno
    by_cases hlt : k < 34
    · have hc : w1.cell? ⟨w.heap.size, k, none⟩ = some (.string (opersL[k]'hlt)) := (HB.out.cell k).trans (opersC_get hlt)
      obtain ⟨o, ho⟩ : ∃ o, o = opersL[k]'hlt := ⟨_, rfl⟩
      rw [← ho] at hc
      have HS := hide (show matchB s o = false → ∀ i (h : i < opersL.length), i < k + 1 → matchB s opersL[i] = false from fun hm i h hi => by
        rcases Nat.lt_or_ge i k with hik | hik
        · exact HN.out i h hik
        · obtain rfl : i = k := by omega
          rw [ho] at hm
          exact hm)
      have HO := hide (show o ∈ opersL from ho ▸ List.getElem_mem hlt)
      clear ho
      by_cases hz : o.size ≤ s.size
      · have hzi : (o.size : Int) ≤ (s.size : Int) := by omega
        go_wp2_with fail
        go_quiet (fail)
        go_wp2_with fail
        all_goals first
          | (go_ret; exact ⟨⟨o.size, rfl, Or.inl ⟨o, HO.out, by rw [matchB, decide_eq_true hz, Bool.true_and]; assumption, rfl⟩⟩, below_drewN hB1 _⟩)
          | exact ⟨⟨k + 1, _, by go_num, by omega, rfl, HS.out (by rw [matchB, decide_eq_true hz, Bool.true_and]; assumption)⟩, by simp [intOf]; omega⟩
      · have hzi : ¬ (o.size : Int) ≤ (s.size : Int) := by omega
        go_wp2_with fail
        go_quiet (fail)
        go_wp2_with fail
        exact ⟨⟨k + 1, _, by go_num, by omega, rfl, HS.out (by rw [matchB, decide_eq_false hz, Bool.false_and])⟩, by simp [intOf]; omega⟩
    · go_wp2_with fail
      go_ret
      refine ⟨⟨0, rfl, Or.inr ⟨rfl, fun o ho => ?_⟩⟩, below_drewN hB1 _⟩
      obtain ⟨i, hi, rfl⟩ := List.mem_iff_getElem.1 ho
      exact HN.out i hi (Nat.lt_of_lt_of_le hi (by show 34 ≤ k; omega))
end Go.Proofs.YtacgmmpdichlmaaGreat
namespace Go.Proofs.YtacgmmpdichlmaaGreat
open Go.RowKit

set_option maxHeartbeats 1000000 in
theorem piece_any (s : ByteArray) (w : World) (hs : s.size ≤ 65536) : Calls Tryz.prog 66 #[.string s] w fun e w' => (∃ n : Nat, e = .returned (.int .i64 n) ∧ n ≤ s.size) ∧ Below w.heap.size w w' := by
  go_enter Tryz.func66, Tryz.ntmps66
  go_wp2_with fail
  go_loopw [3] (fun n wr => ∃ k : Nat, n = .int .i64 k ∧ k ≤ s.size ∧ Below w.heap.size w wr) (fun n _ => s.size - (intOf n).toNat)
  case atStart => exact ⟨0, rfl, Nat.zero_le _, Below.refl _ _⟩
  case round =>
    obtain ⟨k, rfl, hk, hb⟩ := hrel
    by_cases hlt : k < s.size
    · have hlti : (k : Int) < (s.size : Int) := by omega
      cases hq : ((s[k].toNat : Int) != 34) with
      | false =>
        go_wp2_with fail
        all_goals
          go_ret
          exact ⟨⟨k, rfl, hk⟩, hb⟩
      | true =>
        cases hs92 : ((s[k].toNat : Int) == 92) with
        | false =>
          go_wp2_with fail
          all_goals first
            | exact ⟨⟨k + 1, by go_num, by omega, hb⟩, by simp [intOf]; omega⟩
            | (go_roundw
               case rel => exact ⟨k + 1, by go_num, by omega, hb⟩
               case measure => simp [intOf]; omega)
        | true =>
          go_wp2_with fail
          refine (escape_any (s.extract k s.size) wr (by simp only [ByteArray.size_extract]; omega)).mono ?_
          rintro e w1 ⟨⟨m, rfl, hm⟩, hb1⟩
          rw [ByteArray.size_extract] at hm
          have hb2 : Below w.heap.size w w1 := hb.trans (hb1.mono hb.size)
          by_cases hm0 : m = 0
          · subst hm0
            go_wp2_with fail
            all_goals
              go_ret
              exact ⟨⟨k, rfl, hk⟩, hb2⟩
          · have hm0i : ((m : Int) == 0) = false := by simp; omega
            go_wp2_with fail
            all_goals first
              | exact ⟨⟨k + m, by go_num, by omega, hb2⟩, by simp [intOf]; omega⟩
              | (go_roundw
                 case rel => exact ⟨k + m, by go_num, by omega, hb2⟩
                 case measure => simp [intOf]; omega)
    · have hlti : ¬ (k : Int) < (s.size : Int) := by omega
      go_wp2_with fail
      go_ret
      exact ⟨⟨k, rfl, hk⟩, hb⟩
end Go.Proofs.YtacgmmpdichlmaaGreat
namespace Go.Proofs.YtacgmmpdichlmaaGreat
open Go.RowKit

/-- Cells that hold texts. -/
def strs (l : List ByteArray) : Array Value := (l.map Value.string).toArray
theorem strs_get {l : List ByteArray} {k : Nat} (h : k < l.length) : (strs l)[k]? = some (.string l[k]) := by
  simp only [strs, List.getElem?_toArray, List.getElem?_map, List.getElem?_eq_getElem h, Option.map_some]
def keysL : List ByteArray := [⟨#[97, 110, 100]⟩, ⟨#[97, 115]⟩, ⟨#[98, 114, 101, 97, 107]⟩, ⟨#[99, 97, 116, 99, 104]⟩, ⟨#[100, 101, 102]⟩, ⟨#[101, 108, 105, 102]⟩, ⟨#[101, 108, 115, 101]⟩, ⟨#[101, 110, 100]⟩, ⟨#[102, 111, 114, 101, 97, 99, 104]⟩, ⟨#[105, 102]⟩, ⟨#[105, 109, 112, 111, 114, 116]⟩, ⟨#[105, 110, 99, 108, 117, 100, 101]⟩, ⟨#[108, 97, 98, 101, 108]⟩, ⟨#[109, 111, 100, 117, 108, 101]⟩, ⟨#[111, 114]⟩, ⟨#[114, 101, 100, 117, 99, 101]⟩, ⟨#[116, 104, 101, 110]⟩, ⟨#[116, 114, 121]⟩]
set_option maxHeartbeats 2000000 in
theorem key_any (s : ByteArray) (w : World) : Calls Tryz.prog 107 #[.string s] w fun e w' => IsBool e ∧ Below w.heap.size w w' := by
  obtain ⟨w1, hw1⟩ : ∃ w1, w.alloc (.cells (strs keysL) 9) = w1 := ⟨_, rfl⟩
  have hB1 : Below w.heap.size w w1 := hw1 ▸ (Below.refl _ w).alloc (Nat.le_refl _) _
  have HB := hide (show Blk w1 w.heap.size 9 (strs keysL) from hw1 ▸ Blk.new w 9 _)
  simp only [strs, keysL, List.map_cons, List.map_nil] at hw1
  go_enter Tryz.func107, Tryz.ntmps107
  go_wp2_with fail
  clear hw1
  go_loopw [4] (fun i wr => ∃ k j : Nat, i = .int .i64 k ∧ k ≤ 18 ∧ wr = w1.drewN j) (fun i _ => 18 - (intOf i).toNat)
  case atStart => exact ⟨0, 0, rfl, by omega, rfl⟩
  case round =>
    obtain ⟨k, j, rfl, hk, rfl⟩ := hrel
    by_cases hlt : k < 18
    · have hc : w1.cell? ⟨w.heap.size, k, none⟩ = some (.string (keysL[k]'hlt)) := (HB.out.cell k).trans (strs_get (l := keysL) hlt)
      obtain ⟨o, ho⟩ : ∃ o, o = keysL[k]'hlt := ⟨_, rfl⟩
      rw [← ho] at hc
      clear ho
      go_wp2_with fail
      first
        | (go_quiet (fail)
           go_wp2_with fail)
        | skip
      all_goals first
        | (go_ret; exact ⟨⟨_, rfl⟩, below_drewN hB1 _⟩)
        | exact ⟨⟨k + 1, _, by go_num, by omega, rfl⟩, by simp [intOf]; omega⟩
        | (go_roundw
           case rel => exact ⟨k + 1, _, by go_num, by omega, rfl⟩
           case measure => simp [intOf]; omega)
    · go_wp2_with fail
      go_ret
      exact ⟨⟨_, rfl⟩, below_drewN hB1 _⟩
end Go.Proofs.YtacgmmpdichlmaaGreat
namespace Go.Proofs.YtacgmmpdichlmaaGreat
open Go.RowKit

set_option maxHeartbeats 1000000 in
theorem plainName_any (s : ByteArray) (w : World) (hs : s.size ≤ 65536) : Calls Tryz.prog 100 #[.string s] w fun e w' => IsBool e ∧ Below w.heap.size w w' := by
  by_cases h0 : 0 < s.size
  · have hne := toList_ne h0
    have hie := isEmpty_no h0
    go_enter Tryz.func100, Tryz.ntmps100
    go_wp2_with fail
    refine (simple_any s w (by simp only [maxLen]; omega)).mono ?_
    rintro e w1 ⟨⟨n, rfl, hn, -⟩, rfl⟩
    by_cases hz : n = s.size
    · subst hz
      go_wp2_with fail
      refine (key_any s _).mono ?_
      rintro e w2 ⟨⟨b, rfl⟩, hb⟩
      go_wp2_with fail
      go_ret
      exact ⟨⟨_, rfl⟩, hb⟩
    · have hzi : ((n : Int) == (s.size : Int)) = false := by simp; omega
      go_wp2_with fail
      all_goals
        go_ret
        exact ⟨⟨_, rfl⟩, Below.refl _ _⟩
  · have hne := toList_no h0
    go_enter Tryz.func100, Tryz.ntmps100
    go_wp2_with fail
    all_goals
      go_ret
      exact ⟨⟨_, rfl⟩, Below.refl _ _⟩

set_option maxHeartbeats 1000000 in
/-- A text of one byte below 128 ahead: a rune of one byte. -/
theorem one_ascii (s : ByteArray) (w : World) (hs : s.size ≤ 65536) (h0 : 0 < s.size) (ha : s[0].toNat < 128) : Calls Tryz.prog 65 #[.string s] w fun e w' => e = .returned (.int .i64 1) ∧ Below w.heap.size w w' := by
  have hne := toList_ne h0
  have hie := isEmpty_no h0
  have hse : ¬ s = ByteArray.empty := by rintro rfl; exact absurd h0 (by decide)
  go_enter Tryz.func65, Tryz.ntmps65
  go_wp2_with fail
  refine (more_any s[0].toNat w (by omega)).mono ?_
  rintro e w1 ⟨⟨n, rfl, -, -, hn⟩, rfl⟩
  obtain rfl := hn (by omega)
  go_wp2_with fail
  refine (more_any s[0].toNat _ (by omega)).mono ?_
  rintro e w2 ⟨⟨n, rfl, -, -, hn⟩, rfl⟩
  obtain rfl := hn (by omega)
  go_wp2_with fail
  refine (more_any s[0].toNat _ (by omega)).mono ?_
  rintro e w3 ⟨⟨n, rfl, -, -, hn⟩, rfl⟩
  obtain rfl := hn (by omega)
  go_wp2_with fail
  go_loopw [4, 5] (fun r i wr => r = .int .i64 s[0].toNat ∧ i = .int .i64 1 ∧ wr = w3) (fun _ _ _ => 0)
  case atStart => exact ⟨rfl, rfl, rfl⟩
  case round =>
    obtain ⟨rfl, rfl, rfl⟩ := hrel
    go_wp2_with fail
    all_goals first
      | (go_ret; exact ⟨rfl, (Below.refl _ _).alloc (Nat.le_refl _) _⟩)
end Go.Proofs.YtacgmmpdichlmaaGreat
namespace Go.Proofs.YtacgmmpdichlmaaGreat
open Go.RowKit

set_option maxHeartbeats 1000000 in
theorem check_ascii (s : ByteArray) (w : World) (hs : s.size ≤ 65536) (ha : ∀ i (h : i < s.size), s[i].toNat < 128) : Calls Tryz.prog 53 #[.string s] w fun e w' => e = .returned (.int .i64 (-1)) ∧ Below w.heap.size w w' := by
  have HA := hide ha
  clear ha
  go_enter Tryz.func53, Tryz.ntmps53
  go_wp2_with fail
  go_loopw [3] (fun n wr => ∃ k : Nat, n = .int .i64 k ∧ k ≤ s.size ∧ Below w.heap.size w wr) (fun n _ => s.size - (intOf n).toNat)
  case atStart => exact ⟨0, rfl, Nat.zero_le _, Below.refl _ _⟩
  case round =>
    obtain ⟨k, rfl, hk, hb⟩ := hrel
    by_cases hlt : k < s.size
    · have hlti : (k : Int) < (s.size : Int) := by omega
      have hx : 0 < (s.extract k s.size).size := by rw [ByteArray.size_extract]; omega
      have hy : (s.extract k s.size)[0].toNat < 128 := by
        have := HA.out k hlt
        rw [ByteArray.getElem_extract]
        simpa using this
      have HC := hide (one_ascii (s.extract k s.size) wr (by simp only [ByteArray.size_extract]; omega) hx hy)
      clear hx hy
      go_wp2_with fail
      refine HC.out.mono ?_
      rintro e w1 ⟨rfl, hb1⟩
      have hb2 : Below w.heap.size w w1 := hb.trans (hb1.mono hb.size)
      go_wp2_with fail
      all_goals first
        | exact ⟨⟨k + 1, by go_num, by omega, hb2⟩, by simp [intOf]; omega⟩
        | (go_roundw
           case rel => exact ⟨k + 1, by go_num, by omega, hb2⟩
           case measure => simp [intOf]; omega)
    · have hlti : ¬ (k : Int) < (s.size : Int) := by omega
      go_wp2_with fail
      go_ret
      exact ⟨rfl, hb⟩
end Go.Proofs.YtacgmmpdichlmaaGreat
namespace Go.Proofs.YtacgmmpdichlmaaGreat

theorem matchB_first {s o : ByteArray} (h : matchB s o = true) (h0 : 0 < s.size) (ho : 0 < o.size) : s[0] = o[0] := by
  simp only [matchB, Bool.and_eq_true, decide_eq_true_eq, beq_iff_eq] at h
  obtain ⟨hz, he⟩ := h
  rw [Lib.toList_data, Lib.toList_data] at he
  have e : (s.extract 0 o.size) = o := ByteArray.ext (Array.toList_inj.1 he)
  have hx : 0 < (s.extract 0 o.size).size := by rw [e]; exact ho
  have h1 : (s.extract 0 o.size)[0] = s[0] := by rw [ByteArray.getElem_extract]
  rw [← h1]
  congr 1
theorem matchB_one {s : ByteArray} {c : UInt8} (h0 : 0 < s.size) (hc : s[0] = c) : matchB s ⟨#[c]⟩ = true := by
  simp only [matchB, Bool.and_eq_true, decide_eq_true_eq, beq_iff_eq]
  refine ⟨h0, ?_⟩
  rw [Lib.toList_data, Lib.toList_data]
  have hsz : (s.extract 0 1).size = 1 := by rw [ByteArray.size_extract]; omega
  refine List.ext_getElem (by rw [Array.length_toList]; exact hsz) fun i h1 h2 => ?_
  obtain rfl : i = 0 := by simp at h2; exact h2
  have h3 : (s.extract 0 1)[0] = s[0] := by rw [ByteArray.getElem_extract]
  rw [hc] at h3
  exact h3
/-- A bracket is an operator of one byte. -/
theorem oper_bracket {s : ByteArray} {n : Nat} (h : operP s n) (h0 : 0 < s.size) (hc : s[0] = 40 ∨ s[0] = 41) : n = 1 := by
  rcases h with ⟨o, ho, hm, rfl⟩ | ⟨rfl, hn⟩
  · have hall : ∀ o ∈ opersL, ∃ h : 0 < o.size, (o[0] = 40 ∨ o[0] = 41 → o.size = 1) := by decide
    obtain ⟨h1, h2⟩ := hall o ho
    exact h2 (by rw [← matchB_first hm h0 h1]; exact hc)
  · rcases hc with hc | hc
    · have := hn ⟨#[40]⟩ (by simp [opersL])
      rw [matchB_one h0 hc] at this
      cases this
    · have := hn ⟨#[41]⟩ (by simp [opersL])
      rw [matchB_one h0 hc] at this
      cases this
end Go.Proofs.YtacgmmpdichlmaaGreat
namespace Go.Proofs.YtacgmmpdichlmaaGreat
open Go.RowKit

/-- The parser's items. -/
def Its (w : World) (a : Option Addr) (l : List Tk) : Prop := IsItems w (· < w.heap.size) a l ∧ l.length ≤ 65536 ∧ (∀ t ∈ l, t.ok)
theorem Its.below {w w' : World} {a : Option Addr} {l : List Tk} (h : Its w a l) (hb : Below w.heap.size w w') : Its w' a l := ⟨h.1.keep fun b hlt => ⟨Nat.lt_of_lt_of_le hlt hb.size, hb.block b hlt⟩, h.2⟩
theorem Its.alloc {w : World} {a : Option Addr} {l : List Tk} (h : Its w a l) (o : Obj) : Its (w.alloc o) a l := h.below ((Below.refl _ w).alloc (Nat.le_refl _) o)

theorem ended_tok {fn : Func} {p : Tmp} {tmps : Array Value} {W : World} {R : Ending → World → Prop} {g : Nat} {c0 c1 : Value} (hr : fn.results = #[.cell p 66]) (hp : tmps.getD p undef = .pointer (some ⟨g, 0, none⟩)) (hb : Blk W g 66 #[c0, c1])
    (hd : R (.returned (.agg #[c0, c1])) W) : bodyPost Tryz.prog fn R .ret { tmps := tmps, defers := [] } W :=
  bodyPost_ret (results_cell_row hr tmps W g 66 _ (0, 0) _ hp hb Tryz.underlying66 rfl (by kernel_rfl)) rfl hd
theorem ended_p {fn : Func} {p : Tmp} {tmps : Array Value} {W : World} {R : Ending → World → Prop} {g : Nat} {c0 c1 c2 : Value} (hr : fn.results = #[.cell p 86]) (hp : tmps.getD p undef = .pointer (some ⟨g, 0, none⟩)) (hb : Blk W g 86 #[c0, c1, c2])
    (hd : R (.returned (.agg #[c0, c1, c2])) W) : bodyPost Tryz.prog fn R .ret { tmps := tmps, defers := [] } W :=
  bodyPost_ret (results_cell_row hr tmps W g 86 _ (0, 0) _ hp hb Tryz.underlying86 rfl (by kernel_rfl)) rfl hd

theorem Blk.new_ {w : World} {t : TypeId} {cs : Array Value} {g : Nat} (h : g = w.heap.size) : Blk (w.alloc (.cells cs t)) g t cs := h ▸ Blk.new w t cs
theorem two_new (w : World) (o o' : Obj) : Below w.heap.size w ((w.alloc o).alloc o') := ((Below.refl _ w).alloc (Nat.le_refl _) _).alloc (by simp) _

theorem tok_any {l : List Tk} {a : Option Addr} {cap i : Nat} {bad : Bool} {w : World} (hi : Its w a l) :
    Calls Tryz.prog 86 #[.agg #[.slice a l.length cap, .int .i64 i, .bool bad]] w fun e w' => e = .returned (.agg #[.int .i64 (tokAt l i bad).kind, .string (tokAt l i bad).text]) ∧ Below w.heap.size w w' := by
  obtain ⟨hI, hl, hok⟩ := hi
  cases bad with
  | true =>
    go_enter Tryz.func86, Tryz.ntmps86
    go_wp2_with fail
    exact ended_tok rfl rfl (Blk.new_ (by simp)) ⟨rfl, two_new _ _ _⟩
  | false =>
    by_cases hlt : i < l.length
    · rw [tokAt_in hlt]
      obtain ⟨b, o, rfl, hb, h0, h1⟩ := hI.get hlt
      go_enter Tryz.func86, Tryz.ntmps86
      go_wp2_with fail
      exact ended_tok rfl rfl (Blk.new_ (by simp)) ⟨rfl, two_new _ _ _⟩
    · rw [tokAt_end (by omega)]
      go_enter Tryz.func86, Tryz.ntmps86
      go_wp2_with fail
      exact ended_tok rfl rfl (Blk.new_ (by simp)) ⟨rfl, two_new _ _ _⟩
/-- One further. -/
def nextAt (i : Nat) (bad : Bool) : Nat := if bad then i else i + 1
theorem next_any (x : Value) (i : Nat) (bad : Bool) (w : World) (h1 : ∃ a n c, x = .slice a n c) (hi : i ≤ 1000000) :
    Calls Tryz.prog 87 #[.agg #[x, .int .i64 i, .bool bad]] w fun e w' => e = .returned (.agg #[x, .int .i64 (nextAt i bad), .bool bad]) ∧ Below w.heap.size w w' := by
  obtain ⟨a, n, c, rfl⟩ := h1
  cases bad with
  | true =>
    go_enter Tryz.func87, Tryz.ntmps87
    go_wp2_with fail
    exact ended_p rfl rfl (Blk.new_ (by simp)) ⟨rfl, two_new _ _ _⟩
  | false =>
    go_enter Tryz.func87, Tryz.ntmps87
    go_wp2_with fail
    exact ended_p rfl rfl (Blk.new_ (by simp)) ⟨rfl, two_new _ _ _⟩
theorem wrong_any (x : Value) (i : Nat) (bad : Bool) (w : World) (h1 : ∃ a n c, x = .slice a n c) :
    Calls Tryz.prog 73 #[.agg #[x, .int .i64 i, .bool bad]] w fun e w' => e = .returned (.agg #[x, .int .i64 i, .bool true]) ∧ Below w.heap.size w w' := by
  obtain ⟨a, n, c, rfl⟩ := h1
  go_enter Tryz.func73, Tryz.ntmps73
  go_wp2_with fail
  exact ended_p rfl rfl (Blk.new_ (by simp)) ⟨rfl, two_new _ _ _⟩

theorem fieldT0 (k : Int) (s : ByteArray) (w : World) : (Instr.field 66 (.agg #[.int .i64 k, .string s]) 0).run Tryz.prog w = .ok (.int .i64 k) w := by kernel_rfl
theorem fieldT1 (k : Int) (s : ByteArray) (w : World) : (Instr.field 66 (.agg #[.int .i64 k, .string s]) 1).run Tryz.prog w = .ok (.string s) w := by kernel_rfl
/-- Is the token an operator's sign, or a word? -/
def opB (t : Tk) (s : ByteArray) : Bool := decide (t.kind = 13) && (t.text.toList == s.toList)
def wordB (t : Tk) (s : ByteArray) : Bool := decide (t.kind = 3) && (t.text.toList == s.toList)
theorem op_any {l : List Tk} {a : Option Addr} {cap i : Nat} {bad : Bool} {w : World} (s : ByteArray) (hi : Its w a l) :
    Calls Tryz.prog 91 #[.agg #[.slice a l.length cap, .int .i64 i, .bool bad], .string s] w fun e w' => e = .returned (.bool (opB (tokAt l i bad) s)) ∧ Below w.heap.size w w' := by
  obtain ⟨W, hW⟩ : ∃ W, w.alloc (.cells #[.slice a l.length cap, .int .i64 i, .bool bad] 86) = W := ⟨_, rfl⟩
  have hI : Its W a l := hW ▸ hi.alloc _
  have hB : Below w.heap.size w W := hW ▸ (Below.refl _ w).alloc (Nat.le_refl _) _
  have HB := hide (show Blk W w.heap.size 86 #[.slice a l.length cap, .int .i64 i, .bool bad] from hW ▸ Blk.new_ rfl)
  obtain ⟨t, ht⟩ : ∃ t, t = tokAt l i bad := ⟨_, rfl⟩
  have HT := hide ht
  obtain ⟨g0, g1, g2, -⟩ := HB.out.three
  rw [← HT.out]
  clear hi ht
  have hf0 := fieldT0 t.kind t.text
  have hf1 := fieldT1 t.kind t.text
  cases hk : decide (t.kind = 13) with
  | false =>
    have hk' : (t.kind == 13) = false := by simpa using hk
    have HK := hide hk
    clear hk
    go_enter Tryz.func91, Tryz.ntmps91
    go_wp2_with fail
    refine (tok_any hI).mono ?_
    rintro e w1 ⟨rfl, hb1⟩
    rw [← HT.out]
    clear g0 g1 g2 hW
    go_wp2_with fail
    go_ret
    exact ⟨ret_bool (by rw [opB, HK.out]; rfl), hB.trans (hb1.mono hB.size)⟩
  | true =>
    have hk' : (t.kind == 13) = true := by simpa using hk
    have HK := hide hk
    clear hk
    go_enter Tryz.func91, Tryz.ntmps91
    go_wp2_with fail
    refine (tok_any hI).mono ?_
    rintro e w1 ⟨rfl, hb1⟩
    rw [← HT.out]
    clear g0 g1 g2 hW
    obtain ⟨g0, g1, g2, -⟩ := (HB.out.below hb1 HB.out.lt).three
    go_wp2_with fail
    refine (tok_any (hI.below hb1)).mono ?_
    rintro e w2 ⟨rfl, hb2⟩
    rw [← HT.out]
    clear g0 g1 g2
    go_wp2_with fail
    go_ret
    exact ⟨ret_bool (by rw [opB, HK.out, Bool.true_and]), (hB.trans (hb1.mono hB.size)).trans (hb2.mono (by have := hB.size; have := hb1.size; omega))⟩
theorem isWord_any {l : List Tk} {a : Option Addr} {cap i : Nat} {bad : Bool} {w : World} (s : ByteArray) (hi : Its w a l) :
    Calls Tryz.prog 69 #[.agg #[.slice a l.length cap, .int .i64 i, .bool bad], .string s] w fun e w' => e = .returned (.bool (wordB (tokAt l i bad) s)) ∧ Below w.heap.size w w' := by
  obtain ⟨W, hW⟩ : ∃ W, w.alloc (.cells #[.slice a l.length cap, .int .i64 i, .bool bad] 86) = W := ⟨_, rfl⟩
  have hI : Its W a l := hW ▸ hi.alloc _
  have hB : Below w.heap.size w W := hW ▸ (Below.refl _ w).alloc (Nat.le_refl _) _
  have HB := hide (show Blk W w.heap.size 86 #[.slice a l.length cap, .int .i64 i, .bool bad] from hW ▸ Blk.new_ rfl)
  obtain ⟨t, ht⟩ : ∃ t, t = tokAt l i bad := ⟨_, rfl⟩
  have HT := hide ht
  obtain ⟨g0, g1, g2, -⟩ := HB.out.three
  rw [← HT.out]
  clear hi ht
  have hf0 := fieldT0 t.kind t.text
  have hf1 := fieldT1 t.kind t.text
  cases hk : decide (t.kind = 3) with
  | false =>
    have hk' : (t.kind == 3) = false := by simpa using hk
    have HK := hide hk
    clear hk
    go_enter Tryz.func69, Tryz.ntmps69
    go_wp2_with fail
    refine (tok_any hI).mono ?_
    rintro e w1 ⟨rfl, hb1⟩
    rw [← HT.out]
    clear g0 g1 g2 hW
    go_wp2_with fail
    go_ret
    exact ⟨ret_bool (by rw [wordB, HK.out]; rfl), hB.trans (hb1.mono hB.size)⟩
  | true =>
    have hk' : (t.kind == 3) = true := by simpa using hk
    have HK := hide hk
    clear hk
    go_enter Tryz.func69, Tryz.ntmps69
    go_wp2_with fail
    refine (tok_any hI).mono ?_
    rintro e w1 ⟨rfl, hb1⟩
    rw [← HT.out]
    clear g0 g1 g2 hW
    obtain ⟨g0, g1, g2, -⟩ := (HB.out.below hb1 HB.out.lt).three
    go_wp2_with fail
    refine (tok_any (hI.below hb1)).mono ?_
    rintro e w2 ⟨rfl, hb2⟩
    rw [← HT.out]
    clear g0 g1 g2
    go_wp2_with fail
    go_ret
    exact ⟨ret_bool (by rw [wordB, HK.out, Bool.true_and]), (hB.trans (hb1.mono hB.size)).trans (hb2.mono (by have := hB.size; have := hb1.size; omega))⟩
end Go.Proofs.YtacgmmpdichlmaaGreat
namespace Go.Proofs.YtacgmmpdichlmaaGreat
open Go.RowKit

/-- Since world w block g is made, and holds just the cells cs. -/
structure Bk (w W : World) (g : Nat) (t : TypeId) (cs : Array Value) : Prop where
  blk : Blk W g t cs
  new : w.heap.size ≤ g

section
variable {w W W' : World} {g g' : Nat} {t : TypeId} {cs : Array Value}
theorem Bk.call (h : Bk w W g t cs) (hb : Below W.heap.size W W') : Bk w W' g t cs := ⟨h.blk.below hb h.blk.lt, h.new⟩
theorem Bk.al (h : Bk w W g t cs) (o : Obj) : Bk w (W.alloc o) g t cs := ⟨h.blk.alloc o, h.new⟩
theorem Bk.drew (h : Bk w W g t cs) : Bk w W.drew g t cs := ⟨h.blk, h.new⟩
theorem Bk.drewN (h : Bk w W g t cs) (n : Nat) : Bk w (W.drewN n) g t cs := ⟨h.blk.drewN n, h.new⟩
theorem Bk.mk_ (hB : Below w.heap.size w W) (hg : g = W.heap.size) : Bk w (W.alloc (.cells cs t)) g t cs := ⟨Blk.new_ hg, hg ▸ hB.size⟩
theorem Bk.lt (h : Bk w W g t cs) : g < W.heap.size := h.blk.lt
theorem Bk.far (h : Bk w W g t cs) (hne : g ≠ g') (i : Nat) (v : Value) : Bk w (W.setCell ⟨g', i, none⟩ v) g t cs := ⟨h.blk.far hne v, h.new⟩
theorem Bk.far3 (h : Bk w W g t cs) (hne : g ≠ g') (x y z : Value) : Bk w (((W.setCell ⟨g', 0, none⟩ x).setCell ⟨g', 1, none⟩ y).setCell ⟨g', 2, none⟩ z) g t cs := ((h.far hne 0 x).far hne 1 y).far hne 2 z
theorem Bk.set3 {a b c : Value} (h : Bk w W g t #[a, b, c]) (x y z : Value) : Bk w (((W.setCell ⟨g, 0, none⟩ x).setCell ⟨g, 1, none⟩ y).setCell ⟨g, 2, none⟩ z) g t #[x, y, z] :=
  ⟨((h.blk.set_ 0 x).set_ 1 y).set_ 2 z, h.new⟩
theorem Bk.set_0 {a b c : Value} (h : Bk w W g t #[a, b, c]) (x : Value) : Bk w (W.setCell ⟨g, 0, none⟩ x) g t #[x, b, c] := ⟨h.blk.set_ 0 x, h.new⟩
theorem Bk.set_1 {a b c : Value} (h : Bk w W g t #[a, b, c]) (x : Value) : Bk w (W.setCell ⟨g, 1, none⟩ x) g t #[a, x, c] := ⟨h.blk.set_ 1 x, h.new⟩
theorem Bk.set_2 {a b c : Value} (h : Bk w W g t #[a, b, c]) (x : Value) : Bk w (W.setCell ⟨g, 2, none⟩ x) g t #[a, b, x] := ⟨h.blk.set_ 2 x, h.new⟩
theorem Bk.three {x y z : Value} (h : Bk w W g t #[x, y, z]) : W.cell? ⟨g, 0, none⟩ = some x ∧ W.cell? ⟨g, 1, none⟩ = some y ∧ W.cell? ⟨g, 2, none⟩ = some z ∧ W.frozen? ⟨g, 0, none⟩ = false ∧ W.frozen? ⟨g, 1, none⟩ = false ∧ W.frozen? ⟨g, 2, none⟩ = false := h.blk.three
theorem Bk.two {x y : Value} (h : Bk w W g t #[x, y]) : W.cell? ⟨g, 0, none⟩ = some x ∧ W.cell? ⟨g, 1, none⟩ = some y ∧ W.frozen? ⟨g, 0, none⟩ = false ∧ W.frozen? ⟨g, 1, none⟩ = false := h.blk.two
end

section
variable {w W W' : World} {g : Nat}
/-- What was there at the call's beginning is as it was. -/
theorem bl_al (h : Below w.heap.size w W) (o : Obj) : Below w.heap.size w (W.alloc o) := h.alloc h.size o
theorem bl_call (h : Below w.heap.size w W) (hb : Below W.heap.size W W') : Below w.heap.size w W' := h.trans (hb.mono h.size)
theorem bl_st (h : Below w.heap.size w W) (hg : w.heap.size ≤ g) (i : Nat) (v : Value) : Below w.heap.size w (W.setCell ⟨g, i, none⟩ v) := h.setCell hg v
theorem bl_st3 (h : Below w.heap.size w W) (hg : w.heap.size ≤ g) (x y z : Value) : Below w.heap.size w (((W.setCell ⟨g, 0, none⟩ x).setCell ⟨g, 1, none⟩ y).setCell ⟨g, 2, none⟩ z) := bl_st (bl_st (bl_st h hg 0 x) hg 1 y) hg 2 z
theorem bl_dr (h : Below w.heap.size w W) : Below w.heap.size w W.drew := ⟨h.os, h.tape, h.output, h.size, h.block⟩
end

/-- The end of a parser's function: a place, and a node. -/
theorem results_pn {fn : Func} {p q : Tmp} {tmps : Array Value} {W : World} {g g' : Nat} {x0 x1 x2 y0 y1 y2 : Value} (hr : fn.results = #[.cell p 86, .cell q 24]) (hp : tmps.getD p undef = .pointer (some ⟨g, 0, none⟩)) (hq : tmps.getD q undef = .pointer (some ⟨g', 0, none⟩))
    (h0 : Blk W g 86 #[x0, x1, x2]) (h1 : Blk W g' 24 #[y0, y1, y2]) : (results fn tmps).run Tryz.prog W = .ok (.tuple #[.agg #[x0, x1, x2], .agg #[y0, y1, y2]]) W := by
  have e0 := run_loadVar_row (P := Tryz.prog) W g 86 86 _ (0, 0) _ h0 Tryz.underlying86 rfl (by kernel_rfl)
  have e1 := run_loadVar_row (P := Tryz.prog) W g' 24 24 _ (0, 0) _ h1 Tryz.underlying24 rfl (by kernel_rfl)
  simp only [Array.getD_eq_getD_getElem?] at hp hq
  simp [results, hr, hp, hq, asAddr, e0, e1]
theorem ended_pn {fn : Func} {p q : Tmp} {tmps : Array Value} {W : World} {R : Ending → World → Prop} {g g' : Nat} {x0 x1 x2 y0 y1 y2 : Value} (hr : fn.results = #[.cell p 86, .cell q 24]) (hp : tmps.getD p undef = .pointer (some ⟨g, 0, none⟩)) (hq : tmps.getD q undef = .pointer (some ⟨g', 0, none⟩))
    (h0 : Blk W g 86 #[x0, x1, x2]) (h1 : Blk W g' 24 #[y0, y1, y2]) (hd : R (.returned (.tuple #[.agg #[x0, x1, x2], .agg #[y0, y1, y2]])) W) : bodyPost Tryz.prog fn R .ret { tmps := tmps, defers := [] } W :=
  bodyPost_ret (results_pn hr hp hq h0 h1) rfl hd
/-- A place, and a text. -/
theorem ended_ps {fn : Func} {p q : Tmp} {tmps : Array Value} {W : World} {R : Ending → World → Prop} {g : Nat} {x0 x1 x2 y : Value} (hr : fn.results = #[.cell p 86, .tmp q]) (hp : tmps.getD p undef = .pointer (some ⟨g, 0, none⟩)) (hq : tmps.getD q undef = y)
    (h0 : Blk W g 86 #[x0, x1, x2]) (hd : R (.returned (.tuple #[.agg #[x0, x1, x2], y])) W) : bodyPost Tryz.prog fn R .ret { tmps := tmps, defers := [] } W := by
  refine bodyPost_ret (v := .tuple #[.agg #[x0, x1, x2], y]) ?_ rfl hd
  have e0 := run_loadVar_row (P := Tryz.prog) W g 86 86 _ (0, 0) _ h0 Tryz.underlying86 rfl (by kernel_rfl)
  simp only [Array.getD_eq_getD_getElem?] at hp hq
  simp [results, hr, hp, hq, asAddr, e0]
end Go.Proofs.YtacgmmpdichlmaaGreat
namespace Go.Proofs.YtacgmmpdichlmaaGreat
open Go.RowKit

theorem named {P : Program} {k : Nat} {args : Array Value} {R : Ending → World → Prop} {w : World} (h : ∀ W, W = w → Calls P k args W R) : Calls P k args w R := h w rfl
theorem namedPost {P : Program} {fn : Func} {R : Ending → World → Prop} {e : Exit} {a : Act} {w : World} (h : ∀ W, W = w → bodyPost P fn R e a W) : bodyPost P fn R e a w := h w rfl

theorem namedWp {P : Program} {c : Code} {Q : Exit → Act → World → Prop} {a : Act} {w : World} (h : ∀ W, W = w → c.wp P Q a W) : c.wp P Q a w := h w rfl

theorem namedAny {P : Program} {md : Region.Mode} {ops : Array Oper} {Q : Exit → Act → World → Prop} {S : World → Prop} {n : Nat} {ls : Array Bool} {a : Act} {w : World} (h : ∀ W, W = w → wpAnyH P md ops Q S n ls a W) : wpAnyH P md ops Q S n ls a w := h w rfl

theorem namedQ {Q : Exit → Act → World → Prop} {e : Exit} {a : Act} {w : World} (h : ∀ W, W = w → Q e a W) : Q e a w := h w rfl

/-- Operations at which the walk is to stop: those from the one on that writes slot t. -/
structure Stop (p : Prop) : Prop where
  out : p
theorem stopAt {P : Program} {ops : Array Oper} {Q : Exit → Act → World → Prop} (t : Tmp) {op : Op} {ty : TypeId} {pos : String} {after : Array Edge} {gd : Option (Nat × Bool)} {l : List Oper} {a : Act} {w : World}
    (h : Stop (wpList P ops Q (⟨some t, op, ty, pos, after, gd⟩ :: l) a w)) : wpList P ops Q (⟨some t, op, ty, pos, after, gd⟩ :: l) a w := h.out
theorem namedStop {P : Program} {ops : Array Oper} {Q : Exit → Act → World → Prop} {l : List Oper} {a : Act} {w : World} (h : ∀ W, W = w → wpList P ops Q l a W) : Stop (wpList P ops Q l a w) := ⟨h w rfl⟩

/-- As wpAnyH_take, its open sides last. -/
theorem takeH {P : Program} {md : Region.Mode} {ops : Array Oper} {Q : Exit → Act → World → Prop} {S : World → Prop} {i : Nat} {oi : Oper} {v : Value} {fuel : Nat} {listed : Array Bool} {a : Act} {w : World} (hi : ops[i]? = some oi)
    (hs : Region.noSelect ops = true) (hf : Region.free md ops listed i = true) (hr : (Region.ready md ops listed).contains i = true)
    (hQ : ∀ c a w, Q (.panic c) (a.put oi.dst v) w → Q (.panic c) a w) (hg : Region.wanted oi (yielded ops a.tmps) = true) (hS : S w) (hy : ∀ w, S w → (execOp a.eval oi).run P w = .ok (.value v) w)
    (h : wpAnyH P md ops Q S fuel (listed.setIfInBounds i true) (a.put oi.dst v) w) : wpAnyH P md ops Q S (fuel + 1) listed a w :=
  wpAnyH_take hi hs hf hr hQ (Or.inl ⟨hg, hy⟩) hS h

/-- The variables V lie in blocks that are new since w, each in its own; what was there is as it was. -/
structure St (w W : World) (V : List (Nat × TypeId × Array Value)) : Prop where
  below : Below w.heap.size w W
  vars : ∀ x ∈ V, w.heap.size ≤ x.1 ∧ Blk W x.1 x.2.1 x.2.2
  nodup : (V.map (·.1)).Nodup

/-- What is known of a variable's block. -/
theorem Blk.see2 {w : World} {g : Nat} {t : TypeId} {x y : Value} (h : Blk w g t #[x, y]) : w.cell? ⟨g, 0, none⟩ = some x ∧ w.cell? ⟨g, 1, none⟩ = some y ∧ w.frozen? ⟨g, 0, none⟩ = false ∧ w.frozen? ⟨g, 1, none⟩ = false ∧ g < w.heap.size := ⟨h.cell 0, h.cell 1, h.frozen 0, h.frozen 1, h.lt⟩
theorem Blk.see3 {w : World} {g : Nat} {t : TypeId} {x y z : Value} (h : Blk w g t #[x, y, z]) : w.cell? ⟨g, 0, none⟩ = some x ∧ w.cell? ⟨g, 1, none⟩ = some y ∧ w.cell? ⟨g, 2, none⟩ = some z ∧ w.frozen? ⟨g, 0, none⟩ = false ∧ w.frozen? ⟨g, 1, none⟩ = false ∧ w.frozen? ⟨g, 2, none⟩ = false ∧ g < w.heap.size := ⟨h.cell 0, h.cell 1, h.cell 2, h.frozen 0, h.frozen 1, h.frozen 2, h.lt⟩
/-- Entries of variables, in short. -/
def pe (g : Nat) (a : Option Addr) (l : List Tk) (cap i : Nat) (b : Bool) : Nat × TypeId × Array Value := (g, 86, #[.slice a l.length cap, .int .i64 i, .bool b])
def pz (g : Nat) : Nat × TypeId × Array Value := (g, 86, #[.slice none 0 0, .int .i64 0, .bool false])
def ne (g : Nat) (k : Int) (s : ByteArray) (y : Option Addr) (m c : Nat) : Nat × TypeId × Array Value := (g, 24, #[.int .i64 k, .string s, .slice y m c])
def nz (g : Nat) : Nat × TypeId × Array Value := (g, 24, #[.int .i64 0, .string ⟨#[]⟩, .slice none 0 0])
def te (g : Nat) (t : Tk) : Nat × TypeId × Array Value := (g, 66, #[.int .i64 t.kind, .string t.text])
section
variable {w W W' : World} {V : List (Nat × TypeId × Array Value)}
theorem St.nil (w : World) : St w w [] := ⟨Below.refl _ _, fun x h => (by simp at h), by simp⟩
theorem St.call (h : St w W V) (hb : Below W.heap.size W W') : St w W' V := ⟨bl_call h.below hb, fun x hx => ⟨(h.vars x hx).1, (h.vars x hx).2.below hb (h.vars x hx).2.lt⟩, h.nodup⟩
theorem St.onto (e : W' = W) (h : St w W V) : St w W' V := e ▸ h
theorem St.al (h : St w W V) (o : Obj) : St w (W.alloc o) V := h.call ((Below.refl _ W).alloc (Nat.le_refl _) o)
theorem St.dr (h : St w W V) : St w W.drew V := ⟨bl_dr h.below, fun x hx => ⟨(h.vars x hx).1, (h.vars x hx).2.drew⟩, h.nodup⟩
theorem St.drN (h : St w W V) (n : Nat) : St w (W.drewN n) V := ⟨below_drewN h.below n, fun x hx => ⟨(h.vars x hx).1, (h.vars x hx).2.drewN n⟩, h.nodup⟩
theorem St.lt (h : St w W V) {x : Nat × TypeId × Array Value} (hx : x ∈ V) : x.1 < W.heap.size := (h.vars x hx).2.lt
theorem St.var (h : St w W V) (t : TypeId) (cs : Array Value) {g : Nat} (hg : g = W.heap.size) : St w (W.alloc (.cells cs t)) (V ++ [(g, t, cs)]) := by
  have h' := h.al (.cells cs t)
  refine ⟨h'.below, fun x hx => ?_, ?_⟩
  · rw [List.mem_append] at hx
    rcases hx with hx | hx
    · exact h'.vars x hx
    · obtain rfl : x = (g, t, cs) := by simpa using hx
      exact ⟨by show w.heap.size ≤ g; rw [hg]; exact h.below.size, Blk.new_ hg⟩
  · rw [List.map_append, List.nodup_append]
    refine ⟨h.nodup, by simp, fun a ha b hb e => ?_⟩
    obtain ⟨x, hx, rfl⟩ := List.mem_map.1 ha
    have := h.lt hx
    simp only [List.map_cons, List.map_nil, List.mem_singleton] at hb
    omega
theorem St.get (h : St w W V) (i : Nat) {g : Nat} {t : TypeId} {cs : Array Value} (hi : V[i]? = some (g, t, cs)) : Blk W g t cs := (h.vars _ (List.mem_of_getElem? hi)).2
theorem St.new (h : St w W V) (i : Nat) {g : Nat} {t : TypeId} {cs : Array Value} (hi : V[i]? = some (g, t, cs)) : w.heap.size ≤ g := (h.vars _ (List.mem_of_getElem? hi)).1
theorem St.cells (h : St w W V) (i : Nat) {g : Nat} {t : TypeId} {a b c : Value} (hi : V[i]? = some (g, t, #[a, b, c])) : W.cell? ⟨g, 0, none⟩ = some a ∧ W.cell? ⟨g, 1, none⟩ = some b ∧ W.cell? ⟨g, 2, none⟩ = some c := ⟨(h.get i hi).cell 0, (h.get i hi).cell 1, (h.get i hi).cell 2⟩
theorem St.cells2 (h : St w W V) (i : Nat) {g : Nat} {t : TypeId} {a b : Value} (hi : V[i]? = some (g, t, #[a, b])) : W.cell? ⟨g, 0, none⟩ = some a ∧ W.cell? ⟨g, 1, none⟩ = some b := ⟨(h.get i hi).cell 0, (h.get i hi).cell 1⟩
/-- One cell of the i-th variable is turned. -/
theorem St.st (h : St w W V) (i : Nat) {g : Nat} {t : TypeId} {cs : Array Value} (hi : V[i]? = some (g, t, cs)) (j : Nat) (v : Value) : St w (W.setCell ⟨g, j, none⟩ v) (V.set i (g, t, cs.setIfInBounds j v)) := by
  have hx := h.vars _ (List.mem_of_getElem? hi)
  have hlt := (List.getElem?_eq_some_iff.1 hi).1
  refine ⟨bl_st h.below hx.1 j v, fun x hx' => ?_, ?_⟩
  · obtain ⟨k, hk, he⟩ := List.getElem_of_mem hx'
    rw [List.length_set] at hk
    rw [List.getElem_set] at he
    split at he
    · subst he
      exact ⟨hx.1, hx.2.set_ j v⟩
    · next hne =>
      have hm : x ∈ V := he ▸ List.getElem_mem hk
      refine ⟨(h.vars x hm).1, (h.vars x hm).2.far (fun e => hne ?_) v⟩
      have h1 : (V.map (·.1))[i]'(by rw [List.length_map]; exact hlt) = g := by rw [List.getElem_map, (List.getElem?_eq_some_iff.1 hi).2]
      have h2 : (V.map (·.1))[k]'(by rw [List.length_map]; exact hk) = g := by rw [List.getElem_map, he]; exact e
      rcases Nat.lt_trichotomy i k with hik | hik | hik
      · exact absurd (h1.trans h2.symm) (List.pairwise_iff_getElem.1 h.nodup i k _ _ hik)
      · exact hik
      · exact absurd (h2.trans h1.symm) (List.pairwise_iff_getElem.1 h.nodup k i _ _ hik)
  · have : (V.set i (g, t, cs.setIfInBounds j v)).map (·.1) = V.map (·.1) := by
      rw [List.map_set]
      refine List.ext_getElem? fun k => ?_
      rw [List.getElem?_set]
      split
      · next e =>
        subst e
        rw [if_pos (by rw [List.length_map]; exact hlt), List.getElem?_map, hi]; rfl
      · rfl
    rw [this]
    exact h.nodup
theorem St.st3 (h : St w W V) (i : Nat) {g : Nat} {t : TypeId} {a b c : Value} (hi : V[i]? = some (g, t, #[a, b, c])) (x y z : Value) : St w (((W.setCell ⟨g, 0, none⟩ x).setCell ⟨g, 1, none⟩ y).setCell ⟨g, 2, none⟩ z) (V.set i (g, t, #[x, y, z])) := by
  have hlt := (List.getElem?_eq_some_iff.1 hi).1
  have h1 := h.st i hi 0 x
  have h2 := h1.st i (List.getElem?_set_self hlt) 1 y
  have h3 := h2.st i (List.getElem?_set_self (by rw [List.length_set]; exact hlt)) 2 z
  rw [List.set_set, List.set_set] at h3
  exact h3
theorem St.st2 (h : St w W V) (i : Nat) {g : Nat} {t : TypeId} {a b : Value} (hi : V[i]? = some (g, t, #[a, b])) (x y : Value) : St w ((W.setCell ⟨g, 0, none⟩ x).setCell ⟨g, 1, none⟩ y) (V.set i (g, t, #[x, y])) := by
  have hlt := (List.getElem?_eq_some_iff.1 hi).1
  have h1 := h.st i hi 0 x
  have h2 := h1.st i (List.getElem?_set_self hlt) 1 y
  rw [List.set_set] at h2
  exact h2
/-- The variables from the k-th on are let go. -/
theorem St.take (h : St w W V) (k : Nat) : St w W (V.take k) := ⟨h.below, fun x hx => h.vars x (List.mem_of_mem_take hx), by rw [List.map_take]; exact h.nodup.sublist (List.take_sublist _ _)⟩
end

theorem St.cut {w W : World} {V V' : List (Nat × TypeId × Array Value)} (h : St w W V) (k : Nat) (e : V.take k = V') : St w W V' := e ▸ h.take k

/-! ### The walk's words, in short -/
def Rc (w : World) (g : Nat) : List Value → Prop
  | [x] => w.cell? ⟨g, 0, none⟩ = some x ∧ w.frozen? ⟨g, 0, none⟩ = false ∧ g < w.heap.size
  | [x, y] => w.cell? ⟨g, 0, none⟩ = some x ∧ w.cell? ⟨g, 1, none⟩ = some y ∧ w.frozen? ⟨g, 0, none⟩ = false ∧ w.frozen? ⟨g, 1, none⟩ = false ∧ g < w.heap.size
  | [x, y, z] => w.cell? ⟨g, 0, none⟩ = some x ∧ w.cell? ⟨g, 1, none⟩ = some y ∧ w.cell? ⟨g, 2, none⟩ = some z ∧ w.frozen? ⟨g, 0, none⟩ = false ∧ w.frozen? ⟨g, 1, none⟩ = false ∧ w.frozen? ⟨g, 2, none⟩ = false ∧ g < w.heap.size
  | [a, b, c, d, e, f] => w.cell? ⟨g, 0, none⟩ = some a ∧ w.cell? ⟨g, 1, none⟩ = some b ∧ w.cell? ⟨g, 2, none⟩ = some c ∧ w.cell? ⟨g, 3, none⟩ = some d ∧ w.cell? ⟨g, 4, none⟩ = some e ∧ w.cell? ⟨g, 5, none⟩ = some f ∧ w.frozen? ⟨g, 0, none⟩ = false ∧ w.frozen? ⟨g, 1, none⟩ = false ∧ w.frozen? ⟨g, 2, none⟩ = false ∧ w.frozen? ⟨g, 3, none⟩ = false ∧ w.frozen? ⟨g, 4, none⟩ = false ∧ w.frozen? ⟨g, 5, none⟩ = false ∧ g < w.heap.size
  | _ => True
def Rd (w : World) : List (Nat × TypeId × Array Value) → Prop
  | [] => True
  | [x] => Rc w x.1 x.2.2.toList
  | x :: y :: V => Rc w x.1 x.2.2.toList ∧ Rd w (y :: V)
def Lv (w : World) : List (Nat × TypeId × Array Value) → Prop
  | [] => True
  | [x] => x.1 < w.heap.size
  | x :: y :: V => x.1 < w.heap.size ∧ Lv w (y :: V)
def Ks (w : World) (V : List (Nat × TypeId × Array Value)) : Prop := ∀ x ∈ V, Blk w x.1 x.2.1 x.2.2
def picks (V : List (Nat × TypeId × Array Value)) : List Nat → List (Nat × TypeId × Array Value)
  | [] => []
  | i :: is => V[i]?.toList ++ picks V is
theorem Blk.rc {w : World} {g : Nat} {t : TypeId} {cs : Array Value} (h : Blk w g t cs) : Rc w g cs.toList := by
  obtain ⟨l⟩ := cs
  unfold Rc
  split <;> first | trivial | (next hl => subst hl; simp [h.cell, h.frozen, h.lt])
theorem Ks.rd {w : World} : ∀ {V : List (Nat × TypeId × Array Value)}, Ks w V → Rd w V
  | [], _ => trivial
  | [x], h => (h x (by simp)).rc
  | x :: y :: V, h => ⟨(h x (by simp)).rc, Ks.rd fun z hz => h z (List.mem_cons_of_mem _ hz)⟩
theorem Ks.lv {w : World} : ∀ {V : List (Nat × TypeId × Array Value)}, Ks w V → Lv w V
  | [], _ => trivial
  | [x], h => (h x (by simp)).lt
  | x :: y :: V, h => ⟨(h x (by simp)).lt, Ks.lv fun z hz => h z (List.mem_cons_of_mem _ hz)⟩
section
variable {w W W' : World} {V V' L : List (Nat × TypeId × Array Value)}
theorem St.ks (h : St w W V) : Ks W V := fun x hx => (h.vars x hx).2
theorem picks_sub (V : List (Nat × TypeId × Array Value)) : ∀ is : List Nat, ∀ x ∈ picks V is, x ∈ V
  | [], x, h => by simp [picks] at h
  | i :: is, x, h => by
    rw [picks, List.mem_append] at h
    rcases h with h | h
    · exact List.mem_of_getElem? (Option.mem_toList.1 h)
    · exact picks_sub V is x h
theorem kS (h : St w W V) (is : List Nat) (e : picks V is = L := by rfl) : Ks W L := fun x hx => h.ks x (picks_sub V is x (e ▸ hx))
theorem rD {p : Prop} (h : Hid (St w W V)) (e : Rd W V = p := by (dsimp only [Rd, Rc, List.toList_toArray, pe, pz, ne, nz, te] <;> rfl)) : p := e ▸ h.out.ks.rd
theorem lV {p : Prop} (h : Hid (St w W V)) (e : Lv W V = p := by (dsimp only [Lv, pe, pz, ne, nz, te] <;> rfl)) : p := e ▸ h.out.ks.lv
theorem rG {p : Prop} (h : Hid (St w W V)) (i : Nat) {x : Nat × TypeId × Array Value} (hi : V[i]? = some x := by rfl) (e : Rc W x.1 x.2.2.toList = p := by (dsimp only [Rc, List.toList_toArray, pe, pz, ne, nz, te] <;> rfl)) : p := e ▸ (h.out.ks x (List.mem_of_getElem? hi)).rc
theorem onS (e : W' = W) (h : St w W V) (he : V = V' := by first | (simp only [World.size_alloc, World.size_setCell, World.size_drew, List.set_cons_zero, List.set_cons_succ, List.nil_append, List.cons_append, List.setIfInBounds_toArray, pe, pz, ne, nz, te] <;> rfl) | rfl) : Hid (St w W' V') := by
  subst he e
  exact h
theorem St.va (h : St w W V) {t : TypeId} {cs : Array Value} : St w (W.alloc (.cells cs t)) (V ++ [(W.heap.size, t, cs)]) := h.var t cs rfl
end
section
variable {P : Program} {ops : Array Oper} {Q : Exit → Act → World → Prop} {md : Region.Mode}
theorem rgn {a : Act} {id : Nat} {w W : World} {V L : List (Nat × TypeId × Array Value)} (_h : St w W V) (is : List Nat)
    (k : ∀ W', W' = W.drew → wpAnyH P .any ops Q (fun w' => Ks w' L) ops.size (Array.replicate ops.size false) a W')
    (hL : picks V is = L := by first | (simp only [picks, List.getElem?_cons_zero, List.getElem?_cons_succ, Option.toList_some, List.nil_append, List.cons_append] <;> rfl) | rfl) (hm : P.follows .mixedOrders = true := by kernel_rfl) : (Code.region id ops true).wp P Q a W :=
  wp_region_held_drew hm (kS _h.dr is hL) (fun _ => k _ rfl)
theorem tK {S : World → Prop} {fuel : Nat} {listed : Array Bool} {a : Act} {w : World} (i : Nat) {oi : Oper} {v : Value} {a' : Act} (hS : S w) (h : wpAnyH P md ops Q S fuel (listed.setIfInBounds i true) a' w)
    (hi : ops[i]? = some oi := by rfl) (hs : Region.noSelect ops = true := by kernel_rfl) (hf : Region.free md ops listed i = true := by kernel_rfl) (hr : (Region.ready md ops listed).contains i = true := by kernel_rfl)
    (hg : Region.wanted oi (yielded ops a.tmps) = true := by rfl)
    (hy : ∀ w, S w → (execOp a.eval oi).run P w = .ok (.value v) w := by (intro w hSw; replace hSw := Ks.rd hSw; dsimp only [Rd, Rc, List.toList_toArray, pe, pz, ne, nz, te] at hSw; (try go_split_ands); go_simp; all_goals with_reducible rfl))
    (ha : a.put oi.dst v = a' := by first | (simp only [Act.put, List.getElem_toArray, List.getElem_cons_zero, List.getElem_cons_succ, List.setIfInBounds_toArray, List.set_cons_zero, List.set_cons_succ] <;> rfl) | rfl)
    (hQ : ∀ c a w, Q (.panic c) (a.put oi.dst v) w → Q (.panic c) a w := by exact fun _ _ _ h => h) : wpAnyH P md ops Q S (fuel + 1) listed a w := by
  subst ha
  exact wpAnyH_take hi hs hf hr hQ (Or.inl ⟨hg, hy⟩) hS h
variable {S : World → Prop} {fuel : Nat} {listed : Array Bool} {a : Act} {w : World}
theorem rY (i : Nat) {o : Oper} (h : ∀ K' : Act → World → Prop, Shut (∀ a w, S w → (S w → wpAnyH P md ops Q S fuel (listed.setIfInBounds i true) a w) → K' a w) → if Region.wanted o (yielded ops a.tmps) = true then Oper.wp P o a w K' Q else K' (a.put o.dst undef) w)
    (hr : Region.ready md ops listed = [i] := by kernel_rfl) (ho : ops[i]? = some o := by rfl) : wpAnyH P md ops Q S (fuel + 1) listed a w := wpAnyH_ready hr (by simp) (.cons ho h .nil)
theorem rY2 (i j : Nat) {o o' : Oper} (h : ∀ K' : Act → World → Prop, Shut (∀ a w, S w → (S w → wpAnyH P md ops Q S fuel (listed.setIfInBounds i true) a w) → K' a w) → if Region.wanted o (yielded ops a.tmps) = true then Oper.wp P o a w K' Q else K' (a.put o.dst undef) w)
    (h' : ∀ K' : Act → World → Prop, Shut (∀ a w, S w → (S w → wpAnyH P md ops Q S fuel (listed.setIfInBounds j true) a w) → K' a w) → if Region.wanted o' (yielded ops a.tmps) = true then Oper.wp P o' a w K' Q else K' (a.put o'.dst undef) w)
    (hr : Region.ready md ops listed = [i, j] := by kernel_rfl) (ho : ops[i]? = some o := by rfl) (ho' : ops[j]? = some o' := by rfl) : wpAnyH P md ops Q S (fuel + 1) listed a w := wpAnyH_ready hr (by simp) (.cons ho h (.cons ho' h' .nil))
theorem onK {X K : Act → World → Prop} (hK : Shut (∀ a w, S w → (S w → X a w) → K a w)) (hS : S w) (h : X a w) : K a w := hK.out _ _ hS fun _ => h
theorem onW {X K : Act → World → Prop} (hK : Shut (∀ a w, S w → (S w → X a w) → K a w)) (hS : S w) (h : ∀ W, W = w → X a W) : K a w := hK.out _ _ hS fun _ => h w rfl
end

/-- Blocks that are new since w, but for those of G. -/
def Nf (w W : World) (G : List Nat) (b : Nat) : Prop := w.heap.size ≤ b ∧ b < W.heap.size ∧ b ∉ G
/-- A node in such blocks. -/
def Nx (w W : World) (G : List Nat) (d : Nd) (v : Value) : Prop := IsNd W (Nf w W G) d v
/-- A row's cells. -/
def Rx (w W : World) (G : List Nat) (ds : List Nd) (xs : List Value) : Prop := IsRow W (Nf w W G) xs ds
/-- A slice of nodes. -/
def Sx (w W : World) (G : List Nat) (ds : List Nd) (v : Value) : Prop := IsSl W (Nf w W G) ds v

section
variable {w W W' : World} {G G' : List Nat} {d : Nd} {ds : List Nd} {v : Value} {xs : List Value}
theorem Nf.go (hb : Below W.heap.size W W') (b : Nat) (h : Nf w W G b) : Nf w W' G b ∧ W'.heap[b]? = W.heap[b]? := ⟨⟨h.1, Nat.lt_of_lt_of_le h.2.1 hb.size, h.2.2⟩, hb.block b h.2.1⟩
theorem Nf.st (g : Nat) (hg : g ∈ G) (i : Nat) (u : Value) (b : Nat) (h : Nf w W G b) : Nf w (W.setCell ⟨g, i, none⟩ u) G b ∧ (W.setCell ⟨g, i, none⟩ u).heap[b]? = W.heap[b]? :=
  ⟨⟨h.1, by simpa using h.2.1, h.2.2⟩, Below.heap_setCell W ⟨g, i, none⟩ u b (fun e => h.2.2 (by subst e; exact hg))⟩
theorem Nf.var {g : Nat} (hg : g = W.heap.size) (b : Nat) (h : Nf w W G b) (o : Obj) : Nf w (W.alloc o) (G ++ [g]) b ∧ (W.alloc o).heap[b]? = W.heap[b]? :=
  ⟨⟨h.1, by simp; have := h.2.1; omega, fun e => by have := h.2.1; rw [List.mem_append, List.mem_singleton] at e; rcases e with e | e; exact h.2.2 e; omega⟩, Below.heap_alloc W o b h.2.1⟩
theorem Nf.fewer (hG : ∀ g ∈ G', g ∈ G) (b : Nat) (h : Nf w W G b) : Nf w W G' b ∧ W.heap[b]? = W.heap[b]? := ⟨⟨h.1, h.2.1, fun e => h.2.2 (hG b e)⟩, rfl⟩

theorem Nx.call (h : Nx w W G d v) (hb : Below W.heap.size W W') : Nx w W' G d v := IsNd.keep (Nf.go hb) _ _ h
theorem Nx.onto (e : W' = W) (h : Nx w W G d v) : Nx w W' G d v := e ▸ h
theorem Nx.al (h : Nx w W G d v) (o : Obj) : Nx w (W.alloc o) G d v := h.call ((Below.refl _ W).alloc (Nat.le_refl _) o)
theorem Nx.dr (h : Nx w W G d v) : Nx w W.drew G d v := IsNd.keep (w := W) (w' := W.drew) (F := Nf w W G) (F' := Nf w W.drew G) (fun _ hb => ⟨hb, rfl⟩) _ _ h
theorem Nx.drN (h : Nx w W G d v) (n : Nat) : Nx w (W.drewN n) G d v := IsNd.keep (w := W) (w' := W.drewN n) (F := Nf w W G) (F' := Nf w (W.drewN n) G) (fun _ hb => ⟨hb, rfl⟩) _ _ h
theorem Nx.var (h : Nx w W G d v) {g : Nat} (hg : g = W.heap.size) (o : Obj) : Nx w (W.alloc o) (G ++ [g]) d v := IsNd.keep (fun b hb => Nf.var hg b hb o) _ _ h
theorem Nx.st (h : Nx w W G d v) {g : Nat} (hg : g ∈ G) (i : Nat) (u : Value) : Nx w (W.setCell ⟨g, i, none⟩ u) G d v := IsNd.keep (Nf.st g hg i u) _ _ h
theorem Nx.st3 (h : Nx w W G d v) {g : Nat} (hg : g ∈ G) (x y z : Value) : Nx w (((W.setCell ⟨g, 0, none⟩ x).setCell ⟨g, 1, none⟩ y).setCell ⟨g, 2, none⟩ z) G d v := ((h.st hg 0 x).st hg 1 y).st hg 2 z
theorem Nx.fewer (h : Nx w W G d v) (hG : ∀ g ∈ G', g ∈ G) : Nx w W G' d v := IsNd.keep (Nf.fewer hG) _ _ h
/-- A node that a call at W made. -/
theorem Nx.made (h : IsNd W' (New W.heap.size W') d v) {V : List (Nat × TypeId × Array Value)} (hS : St w W V) : Nx w W' (V.map (·.1)) d v :=
  IsNd.keep (fun b hb => ⟨⟨Nat.le_trans hS.below.size hb.1, hb.2, fun e => by
    obtain ⟨x, hx, rfl⟩ := List.mem_map.1 e
    have := hS.lt hx
    have := hb.1
    omega⟩, rfl⟩) _ _ h
/-- Handed back. -/
theorem Nx.out (h : Nx w W G d v) : IsNd W (New w.heap.size W) d v := IsNd.keep (fun _ hb => ⟨⟨hb.1, hb.2.1⟩, rfl⟩) _ _ h
theorem Nx.leaf {k : Int} {s : ByteArray} {cap : Nat} {a : Option Addr} (hk : -9223372036854775808 ≤ k ∧ k ≤ 9223372036854775807) (hs : s.size ≤ maxLen) : Nx w W G (.mk k s .nil) (.agg #[.int .i64 k, .string s, .slice a 0 cap]) := IsNd.leaf hk hs

theorem Rx.nil : Rx w W G [] [] := IsRow.nil
theorem Rx.cons {c0 c1 c2 : Value} (h : Nx w W G d (.agg #[c0, c1, c2])) (h' : Rx w W G ds xs) : Rx w W G (d :: ds) (c0 :: c1 :: c2 :: xs) := IsRow.cons.2 ⟨h, h'⟩
/-- Nodes that are laid in a slice. -/
theorem Rx.lit (h : Rx w W G ds xs) {V : List (Nat × TypeId × Array Value)} (hS : St w W V) (hG : G = V.map (·.1)) (hl : ds.length ≤ maxLen) : Sx w (W.alloc (.cells xs.toArray 24)) G ds (.slice (some ⟨W.heap.size, 0, none⟩) ds.length ds.length) :=
  IsSl.keep (fun b hb => ⟨by
    rcases hb with hb | rfl
    · exact ⟨hb.1, by simp; have := hb.2.1; omega, hb.2.2⟩
    · refine ⟨hS.below.size, by simp, fun e => ?_⟩
      rw [hG] at e
      obtain ⟨x, hx, e⟩ := List.mem_map.1 e
      have := hS.lt hx
      omega, rfl⟩) (IsSl.lit (F := Nf w W G) h (fun b hb => hb.2.1) hl)
/-- A node of Kids. -/
theorem Sx.join {k : Int} {s : ByteArray} (h : Sx w W G ds v) (hk : -9223372036854775808 ≤ k ∧ k ≤ 9223372036854775807) (hs : s.size ≤ maxLen) : Nx w W G (Nd.of k s ds) (.agg #[.int .i64 k, .string s, v]) := IsNd.join hk hs h
theorem Sx.nil (a : Option Addr) (c : Nat) : Sx w W G [] (.slice a 0 c) := IsSl.nil a c
end
theorem Nd.count_of (k : Int) (s : ByteArray) (l : List Nd) : (Nd.of k s l).count = 1 + (l.map Nd.count).sum := by rw [Nd.of, Nd.count, Nds.count_ofL]
end Go.Proofs.YtacgmmpdichlmaaGreat
namespace Go.Proofs.YtacgmmpdichlmaaGreat
open Go.RowKit

section
variable {P : Program} {md : Region.Mode} {ops : Array Oper} {Q : Exit → Act → World → Prop}
/-- A pure operation, under what is held. -/
theorem tC {S : World → Prop} {fuel : Nat} {listed : Array Bool} {a : Act} {w : World} (i : Nat) {oi : Oper} {v : Value} {a' : Act} (hS : S w) (h : wpAnyH P md ops Q S fuel (listed.setIfInBounds i true) a' w)
    (hi : ops[i]? = some oi := by rfl) (hs : Region.noSelect ops = true := by kernel_rfl) (hf : Region.free md ops listed i = true := by kernel_rfl) (hr : (Region.ready md ops listed).contains i = true := by kernel_rfl)
    (hg : Region.wanted oi (yielded ops a.tmps) = true := by rfl)
    (hy : ∀ w, S w → (execOp a.eval oi).run P w = .ok (.value v) w := by (intro w hSw; (try dsimp only at hSw); (try go_split_ands); go_simp; all_goals with_reducible rfl))
    (ha : a.put oi.dst v = a' := by first | (simp only [Act.put, List.getElem_toArray, List.getElem_cons_zero, List.getElem_cons_succ, List.setIfInBounds_toArray, List.set_cons_zero, List.set_cons_succ] <;> rfl) | rfl)
    (hQ : ∀ c a w, Q (.panic c) (a.put oi.dst v) w → Q (.panic c) a w := by exact fun _ _ _ h => h) : wpAnyH P md ops Q S (fuel + 1) listed a w := by
  subst ha
  exact takeH hi hs hf hr hQ hg hS hy h
/-- An operation that a guard leaves out. -/
theorem tN {S : World → Prop} {fuel : Nat} {listed : Array Bool} {a : Act} {w : World} (i : Nat) {oi : Oper} {a' : Act} (hS : S w) (h : wpAnyH P md ops Q S fuel (listed.setIfInBounds i true) a' w)
    (hi : ops[i]? = some oi := by rfl) (hs : Region.noSelect ops = true := by kernel_rfl) (hf : Region.free md ops listed i = true := by kernel_rfl) (hr : (Region.ready md ops listed).contains i = true := by kernel_rfl)
    (hg : Region.wanted oi (yielded ops a.tmps) = false := by rfl)
    (ha : a.put oi.dst undef = a' := by first | (simp only [Act.put, List.getElem_toArray, List.getElem_cons_zero, List.getElem_cons_succ, List.setIfInBounds_toArray, List.set_cons_zero, List.set_cons_succ] <;> rfl) | rfl)
    (hQ : ∀ c a w, Q (.panic c) (a.put oi.dst undef) w → Q (.panic c) a w := by exact fun _ _ _ h => h) : wpAnyH P md ops Q S (fuel + 1) listed a w := by
  subst ha
  exact wpAnyH_take hi hs hf hr hQ (Or.inr ⟨hg, rfl⟩) hS h
/-- The region's beginning. -/
theorem rgC {a : Act} {id : Nat} {w : World} (S : World → Prop) (hS : S w.drew) (k : ∀ W', W' = w.drew → wpAnyH P .any ops Q S ops.size (Array.replicate ops.size false) a W') (hm : P.follows .mixedOrders = true := by kernel_rfl) : (Code.region id ops true).wp P Q a w :=
  wp_region_held_drew hm hS (fun _ => k _ rfl)
end
theorem heap_st3 {w : World} {g q : Nat} (h : q ≠ g) (x y z : Value) : (((w.setCell ⟨g, 0, none⟩ x).setCell ⟨g, 1, none⟩ y).setCell ⟨g, 2, none⟩ z).heap[q]? = w.heap[q]? := (Below.heap_setCell _ ⟨g, 2, none⟩ z q h).trans ((Below.heap_setCell _ ⟨g, 1, none⟩ y q h).trans (Below.heap_setCell _ ⟨g, 0, none⟩ x q h))
theorem heap_sts {w : World} {g q : Nat} (h : q ≠ g) (i j k : Nat) (x y z : Value) : (((w.setCell ⟨g, i, none⟩ x).setCell ⟨g, j, none⟩ y).setCell ⟨g, k, none⟩ z).heap[q]? = w.heap[q]? := (Below.heap_setCell _ ⟨g, k, none⟩ z q h).trans ((Below.heap_setCell _ ⟨g, j, none⟩ y q h).trans (Below.heap_setCell _ ⟨g, i, none⟩ x q h))
end Go.Proofs.YtacgmmpdichlmaaGreat
namespace Go.Proofs.YtacgmmpdichlmaaGreat
open Go.RowKit

/-- Blocks new since w, but for those of G and for the row's own. -/
def Fr (w W : World) (G : List Nat) (v : Value) (b : Nat) : Prop := Nf w W G b ∧ v.ownBlock ≠ some b
/-- The nodes ds lie in a row that is the function's own; the nodes es, of cells ys, are to come to it. -/
def Px (w W : World) (G : List Nat) (v : Value) (ds es : List Nd) (ys : List Value) : Prop :=
  ∃ xs, W.ownsRow w.heap.size 24 3 v ds.length xs ∧ (∀ g, v.ownBlock = some g → g ∉ G) ∧ IsRow W (Fr w W G v) xs ds ∧ IsRow W (Fr w W G v) ys es
/-- A row of which all are there. -/
def Hx (w W : World) (G : List Nat) (v : Value) (ds : List Nd) : Prop := Px w W G v ds [] []

section
variable {w W W' : World} {G G' : List Nat} {v : Value} {ds es : List Nd} {ys : List Value} {d : Nd} {u : Value}
theorem Fr.go (hb : Below W.heap.size W W') (b : Nat) (h : Fr w W G v b) : Fr w W' G v b ∧ W'.heap[b]? = W.heap[b]? := ⟨⟨(Nf.go hb b h.1).1, h.2⟩, (Nf.go hb b h.1).2⟩
theorem Px.call (h : Px w W G v ds es ys) (hb : Below W.heap.size W W') : Px w W' G v ds es ys := by
  obtain ⟨xs, h1, h2, h3, h4⟩ := h
  exact ⟨xs, own_below h1 hb, h2, h3.keep (Fr.go hb), h4.keep (Fr.go hb)⟩
theorem Px.onto (e : W' = W) (h : Px w W G v ds es ys) : Px w W' G v ds es ys := e ▸ h
theorem Px.al (h : Px w W G v ds es ys) (o : Obj) : Px w (W.alloc o) G v ds es ys := h.call ((Below.refl _ W).alloc (Nat.le_refl _) o)
theorem Px.drN (h : Px w W G v ds es ys) (n : Nat) : Px w (W.drewN n) G v ds es ys := h.call (below_drewN (Below.refl _ W) n)
theorem Px.dr (h : Px w W G v ds es ys) : Px w W.drew G v ds es ys := h.call (bl_dr (Below.refl _ W))
theorem Px.own_lt (h : Px w W G v ds es ys) {g : Nat} (hg : v.ownBlock = some g) : g < W.heap.size := by
  obtain ⟨xs, h1, -⟩ := h
  exact (h1.lt g hg).2
theorem Px.var (h : Px w W G v ds es ys) {g : Nat} (hg : g = W.heap.size) (o : Obj) : Px w (W.alloc o) (G ++ [g]) v ds es ys := by
  have hlt := fun x hx => h.own_lt (g := x) hx
  obtain ⟨xs, h1, h2, h3, h4⟩ := h
  have hF : ∀ b, Fr w W G v b → Fr w (W.alloc o) (G ++ [g]) v b ∧ (W.alloc o).heap[b]? = W.heap[b]? := fun b hb => ⟨⟨(Nf.var hg b hb.1 o).1, hb.2⟩, (Nf.var hg b hb.1 o).2⟩
  refine ⟨xs, h1.alloc o, fun x hx e => ?_, h3.keep hF, h4.keep hF⟩
  rw [List.mem_append, List.mem_singleton] at e
  rcases e with e | e
  · exact h2 x hx e
  · have := hlt x hx
    omega
theorem Px.st (h : Px w W G v ds es ys) {g : Nat} (hg : g ∈ G) (i : Nat) (x : Value) : Px w (W.setCell ⟨g, i, none⟩ x) G v ds es ys := by
  obtain ⟨xs, h1, h2, h3, h4⟩ := h
  have hF : ∀ b, Fr w W G v b → Fr w (W.setCell ⟨g, i, none⟩ x) G v b ∧ (W.setCell ⟨g, i, none⟩ x).heap[b]? = W.heap[b]? := fun b hb => ⟨⟨(Nf.st g hg i x b hb.1).1, hb.2⟩, (Nf.st g hg i x b hb.1).2⟩
  refine ⟨xs, ⟨h1.1, ?_⟩, h2, h3.keep hF, h4.keep hF⟩
  rcases h1.2 with hn | ⟨g', cap, cur, hv, hb', hgg, rest⟩
  · exact .inl hn
  · refine .inr ⟨g', cap, cur, hv, hb', (Below.heap_setCell W ⟨g, i, none⟩ x g' (fun e => ?_)).trans hgg, rest⟩
    exact h2 g' (by rw [hv]; rfl) (by rw [e]; exact hg)
theorem Px.st3 (h : Px w W G v ds es ys) {g : Nat} (hg : g ∈ G) (x y z : Value) : Px w (((W.setCell ⟨g, 0, none⟩ x).setCell ⟨g, 1, none⟩ y).setCell ⟨g, 2, none⟩ z) G v ds es ys := ((h.st hg 0 x).st hg 1 y).st hg 2 z
theorem Px.fewer (h : Px w W G v ds es ys) (hG : ∀ g ∈ G', g ∈ G) : Px w W G' v ds es ys := by
  obtain ⟨xs, h1, h2, h3, h4⟩ := h
  have hF : ∀ b, Fr w W G v b → Fr w W G' v b ∧ W.heap[b]? = W.heap[b]? := fun b hb => ⟨⟨(Nf.fewer hG b hb.1).1, hb.2⟩, rfl⟩
  exact ⟨xs, h1, fun g hg e => h2 g hg (hG g e), h3.keep hF, h4.keep hF⟩
theorem Px.form (h : Px w W G v ds es ys) : ∃ a c, v = .slice a ds.length c := by
  obtain ⟨xs, h1, _⟩ := h
  exact own_form h1
theorem Px.form' (h : Px w W G v ds es ys) : ∃ a n c, v = .slice a n c := by
  obtain ⟨a, c, rfl⟩ := h.form
  exact ⟨a, _, c, rfl⟩
theorem Hx.nil (w W : World) (G : List Nat) : Hx w W G (.slice none 0 0) [] := ⟨[], World.ownsRow_nil _ _ _ _, fun g h => by simp [Value.ownBlock] at h, IsRow.nil, IsRow.nil⟩
/-- A node that a call made is to come to the row. -/
theorem Px.made (h : Px w W G v ds es ys) {c0 c1 c2 : Value} (hd : IsNd W' (New W.heap.size W') d (.agg #[c0, c1, c2])) (hb : Below W.heap.size W W') {V : List (Nat × TypeId × Array Value)} (hS : St w W V) (hG : G = V.map (·.1)) : Px w W' G v ds (es ++ [d]) (ys ++ [c0, c1, c2]) := by
  have hlt := fun x hx => h.own_lt (g := x) hx
  obtain ⟨xs, h1, h2, h3, h4⟩ := h.call hb
  refine ⟨xs, h1, h2, h3, h4.append (IsRow.one (IsNd.keep (fun b hb' => ⟨⟨⟨Nat.le_trans hS.below.size hb'.1, hb'.2, fun e => ?_⟩, fun e => ?_⟩, rfl⟩) _ _ hd))⟩
  · rw [hG] at e
    obtain ⟨x, hx, rfl⟩ := List.mem_map.1 e
    have := hS.lt hx
    have := hb'.1
    omega
  · have := hlt b e
    have := hb'.1
    omega
theorem Px.leaf (h : Px w W G v ds es ys) {k : Int} {s : ByteArray} {cap : Nat} {a : Option Addr} (hk : -9223372036854775808 ≤ k ∧ k ≤ 9223372036854775807) (hs : s.size ≤ maxLen) : Px w W G v ds (es ++ [.mk k s .nil]) (ys ++ [.int .i64 k, .string s, .slice a 0 cap]) := by
  obtain ⟨xs, h1, h2, h3, h4⟩ := h
  exact ⟨xs, h1, h2, h3, h4.append (IsRow.one (IsNd.leaf hk hs))⟩
/-- The row after append. -/
theorem Px.snoc (h : Px w W G v ds es ys) {V : List (Nat × TypeId × Array Value)} (hS : St w W V) (hG : G = V.map (·.1)) (hl : ds.length + es.length ≤ 1000000) (he : 0 < es.length) :
    ∃ v' w', (Builtin.append_ #[22, 22] 22 #[v, .slice (some ⟨W.heap.size, 0, none⟩) es.length es.length]).run Tryz.prog (W.alloc (.cells ys.toArray 24)) = .ok v' w' ∧ Hx w w' G v' (ds ++ es) ∧ St w w' V := by
  obtain ⟨xs, h1, h2, h3, h4⟩ := h
  have hb := Blk.new W 24 ys.toArray
  obtain ⟨v', w', hr, hown, hg, hblk⟩ := append_run (h1.alloc _) W.heap.size 0 es.length es.length ys h4.length (fun j u hu => by rw [Nat.zero_add, hb.cell j]; simpa using hu) h4.oneCell hl he (by simp; have := hS.below.size; omega)
  have hsz := hg.size
  simp at hsz
  have hkeep : ∀ b, Fr w W G v b → Fr w w' G v' b ∧ w'.heap[b]? = W.heap[b]? := fun b hb' => by
    refine ⟨⟨⟨hb'.1.1, by have := hb'.1.2.1; omega, hb'.1.2.2⟩, fun e => ?_⟩, (hg.block b (by have := hb'.1.2.1; simp; omega) (fun e => hb'.2 e.symm)).trans (Below.heap_alloc W _ b hb'.1.2.1)⟩
    rcases hblk b e with h | h
    · exact hb'.2 h
    · have := hb'.1.2.1
      simp at h
      omega
  refine ⟨v', w', hr, ⟨xs ++ ys, by rw [List.length_append]; exact hown, fun g e => ?_, (h3.keep hkeep).append (h4.keep hkeep), IsRow.nil⟩, ?_⟩
  · rcases hblk g e with h | h
    · exact h2 g h
    · intro e'
      rw [hG] at e'
      obtain ⟨x, hx, rfl⟩ := List.mem_map.1 e'
      have := hS.lt hx
      simp at h
      omega
  · refine ⟨(bl_al hS.below _).grown hg (by simp; have := hS.below.size; omega) (fun r hr => (h1.lt r hr).1), fun x hx => ⟨(hS.vars x hx).1, ?_⟩, hS.nodup⟩
    refine ((hS.vars x hx).2.alloc _).grown hg (fun e => ?_)
    exact h2 x.1 e.symm (hG ▸ List.mem_map_of_mem hx)
/-- The row as a slice. -/
theorem Px.sl (h : Px w W G v ds es ys) : Sx w W G ds v := by
  have hlt := fun x hx => h.own_lt (g := x) hx
  obtain ⟨xs, h1, h2, h3, h4⟩ := h
  exact IsSl.of_own h1 (h3.keep fun b hb => ⟨hb.1, rfl⟩) fun g e => ⟨(h1.lt g e).1, hlt g e, h2 g e⟩
theorem Px.node {k : Int} {s : ByteArray} (h : Px w W G v ds es ys) (hk : -9223372036854775808 ≤ k ∧ k ≤ 9223372036854775807) (hs : s.size ≤ maxLen) : Nx w W G (Nd.of k s ds) (.agg #[.int .i64 k, .string s, v]) := h.sl.join hk hs
/-- Nodes that are laid in a slice, as a row of one's own. -/
theorem Hx.lit {xs : List Value} (h : Rx w W G ds xs) {V : List (Nat × TypeId × Array Value)} (hS : St w W V) (hG : G = V.map (·.1)) (hl : ds.length ≤ 1000000) : Hx w (W.alloc (.cells xs.toArray 24)) G (.slice (some ⟨W.heap.size, 0, none⟩) ds.length ds.length) ds := by
  have hlen := IsRow.length h
  refine ⟨xs, ⟨hlen, .inr ⟨W.heap.size, ds.length, xs.toArray, rfl, hS.below.size, heap_alloc_new W _, Nat.le_refl _, by simp only [maxLen]; omega, by simp [hlen], ?_⟩⟩, fun g e => ?_, IsRow.keep (fun b hb => ?_) h, IsRow.nil⟩
  · show xs.toArray.toList.take _ = xs
    rw [← hlen]; simp
  · simp only [Value.ownBlock, Option.some.injEq] at e
    subst e
    intro e'
    rw [hG] at e'
    obtain ⟨x, hx, e⟩ := List.mem_map.1 e'
    have := hS.lt hx
    omega
  · have hb : Nf w W G b := hb
    refine ⟨⟨⟨hb.1, by simp; have := hb.2.1; omega, hb.2.2⟩, fun e => ?_⟩, Below.heap_alloc W _ b hb.2.1⟩
    simp only [Value.ownBlock, Option.some.injEq] at e
    have := hb.2.1
    omega
end
end Go.Proofs.YtacgmmpdichlmaaGreat
namespace Go.Proofs.YtacgmmpdichlmaaGreat
open Go.RowKit
attribute [local go_sem ↓] Go.wp_at_zero Go.wp_at_succ

/-- One token further; or wrong. -/
def StepR (l : List Tk) (i : Nat) (bad : Bool) (i' : Nat) (bad' : Bool) : Prop := (bad = false ∧ i < l.length ∧ i' = i + 1 ∧ bad' = false) ∨ (i' = i ∧ bad' = true)
def needB (t : Tk) (s : ByteArray) : Bool := opB t s || wordB t s
theorem opB_kind {t : Tk} {s : ByteArray} (h : opB t s = true) : t.kind = 13 := by
  simp only [opB, Bool.and_eq_true, decide_eq_true_eq] at h
  exact h.1
theorem wordB_kind {t : Tk} {s : ByteArray} (h : wordB t s = true) : t.kind = 3 := by
  simp only [wordB, Bool.and_eq_true, decide_eq_true_eq] at h
  exact h.1
theorem opB_in {l : List Tk} {i : Nat} {bad : Bool} {s : ByteArray} (h : opB (tokAt l i bad) s = true) : bad = false ∧ i < l.length := tokAt_kind (by rw [opB_kind h]; decide)
theorem wordB_in {l : List Tk} {i : Nat} {bad : Bool} {s : ByteArray} (h : wordB (tokAt l i bad) s = true) : bad = false ∧ i < l.length := tokAt_kind (by rw [wordB_kind h]; decide)

theorem need_op {l : List Tk} {a : Option Addr} {cap i : Nat} {bad : Bool} {w : World} {s : ByteArray} (hi : Its w a l) (hat : i ≤ 65536) (ho : opB (tokAt l i bad) s = true) :
    Calls Tryz.prog 89 #[.agg #[.slice a l.length cap, .int .i64 i, .bool bad], .string s] w fun e w' => e = .returned (.agg #[.slice a l.length cap, .int .i64 (nextAt i bad), .bool bad]) ∧ Below w.heap.size w w' := by
  have HO := hide ho
  clear ho
  go_enter Tryz.func89, Tryz.ntmps89
  go_wp2_with fail
  refine named fun W1 hW1 => ?_
  have HS1 := onS hW1 (St.nil w).va.va
  clear hW1
  refine (op_any s (hi.below HS1.out.below)).mono ?_
  rintro e w2 ⟨rfl, hb2⟩
  rw [HO.out]
  have HS2 := hide (HS1.out.call hb2)
  clear hb2 HS1
  have p0 := rD HS2
  go_wp2_with fail
  refine (next_any _ _ _ _ ⟨_, _, _, rfl⟩ (by omega)).mono ?_
  rintro e w3 ⟨rfl, hb3⟩
  have HS3 := hide (HS2.out.call hb3)
  clear hb3 HS2
  clear p0
  have p0 := rD HS3
  go_wp2_with fail
  refine namedPost fun W4 hW4 => ?_
  have HS4 := onS hW4 (HS3.out.st3 1 rfl _ _ _)
  clear hW4 HS3
  clear p0
  exact ended_p rfl rfl (HS4.out.get 1 rfl) ⟨rfl, HS4.out.below⟩
theorem need_word {l : List Tk} {a : Option Addr} {cap i : Nat} {bad : Bool} {w : World} {s : ByteArray} (hi : Its w a l) (hat : i ≤ 65536) (ho : opB (tokAt l i bad) s = false) (hw : wordB (tokAt l i bad) s = true) :
    Calls Tryz.prog 89 #[.agg #[.slice a l.length cap, .int .i64 i, .bool bad], .string s] w fun e w' => e = .returned (.agg #[.slice a l.length cap, .int .i64 (nextAt i bad), .bool bad]) ∧ Below w.heap.size w w' := by
  have HO := hide ho
  clear ho
  have HW := hide hw
  clear hw
  go_enter Tryz.func89, Tryz.ntmps89
  go_wp2_with fail
  refine named fun W1 hW1 => ?_
  have HS1 := onS hW1 (St.nil w).va.va
  clear hW1
  refine (op_any s (hi.below HS1.out.below)).mono ?_
  rintro e w2 ⟨rfl, hb2⟩
  rw [HO.out]
  have HS2 := hide (HS1.out.call hb2)
  clear hb2 HS1
  have p0 := rD HS2
  go_wp2_with fail
  refine (isWord_any s (hi.below HS2.out.below)).mono ?_
  rintro e w3 ⟨rfl, hb3⟩
  rw [HW.out]
  have HS3 := hide (HS2.out.call hb3)
  clear hb3 HS2
  clear p0
  have p0 := rD HS3
  go_wp2_with fail
  refine (next_any _ _ _ _ ⟨_, _, _, rfl⟩ (by omega)).mono ?_
  rintro e w4 ⟨rfl, hb4⟩
  have HS4 := hide (HS3.out.call hb4)
  clear hb4 HS3
  clear p0
  have p0 := rD HS4
  go_wp2_with fail
  refine namedPost fun W5 hW5 => ?_
  have HS5 := onS hW5 (HS4.out.st3 1 rfl _ _ _)
  clear hW5 HS4
  clear p0
  exact ended_p rfl rfl (HS5.out.get 1 rfl) ⟨rfl, HS5.out.below⟩
theorem need_no {l : List Tk} {a : Option Addr} {cap i : Nat} {bad : Bool} {w : World} {s : ByteArray} (hi : Its w a l) (_hat : i ≤ 65536) (ho : opB (tokAt l i bad) s = false) (hw : wordB (tokAt l i bad) s = false) :
    Calls Tryz.prog 89 #[.agg #[.slice a l.length cap, .int .i64 i, .bool bad], .string s] w fun e w' => e = .returned (.agg #[.slice a l.length cap, .int .i64 i, .bool true]) ∧ Below w.heap.size w w' := by
  have HO := hide ho
  clear ho
  have HW := hide hw
  clear hw
  go_enter Tryz.func89, Tryz.ntmps89
  go_wp2_with fail
  refine named fun W1 hW1 => ?_
  have HS1 := onS hW1 (St.nil w).va.va
  clear hW1
  refine (op_any s (hi.below HS1.out.below)).mono ?_
  rintro e w2 ⟨rfl, hb2⟩
  rw [HO.out]
  have HS2 := hide (HS1.out.call hb2)
  clear hb2 HS1
  have p0 := rD HS2
  go_wp2_with fail
  refine (isWord_any s (hi.below HS2.out.below)).mono ?_
  rintro e w3 ⟨rfl, hb3⟩
  rw [HW.out]
  have HS3 := hide (HS2.out.call hb3)
  clear hb3 HS2
  clear p0
  have p0 := rD HS3
  go_wp2_with fail
  refine (wrong_any _ _ _ _ ⟨_, _, _, rfl⟩).mono ?_
  rintro e w4 ⟨rfl, hb4⟩
  have HS4 := hide (HS3.out.call hb4)
  clear hb4 HS3
  clear p0
  have p0 := rD HS4
  go_wp2_with fail
  refine namedPost fun W5 hW5 => ?_
  have HS5 := onS hW5 (HS4.out.st3 1 rfl _ _ _)
  clear hW5 HS4
  clear p0
  exact ended_p rfl rfl (HS5.out.get 1 rfl) ⟨rfl, HS5.out.below⟩
theorem need_any {l : List Tk} {a : Option Addr} {cap i : Nat} {bad : Bool} {w : World} (s : ByteArray) (hi : Its w a l) (hat : i ≤ 65536) :
    Calls Tryz.prog 89 #[.agg #[.slice a l.length cap, .int .i64 i, .bool bad], .string s] w fun e w' => (∃ (i' : Nat) (bad' : Bool), e = .returned (.agg #[.slice a l.length cap, .int .i64 i', .bool bad']) ∧ StepR l i bad i' bad') ∧ Below w.heap.size w w' := by
  cases ho : opB (tokAt l i bad) s with
  | true =>
    obtain ⟨rfl, hlt⟩ := opB_in ho
    exact (need_op hi hat ho).mono fun _ _ h => ⟨⟨_, _, h.1, Or.inl ⟨rfl, hlt, rfl, rfl⟩⟩, h.2⟩
  | false =>
    cases hw : wordB (tokAt l i bad) s with
    | true =>
      obtain ⟨rfl, hlt⟩ := wordB_in hw
      exact (need_word hi hat ho hw).mono fun _ _ h => ⟨⟨_, _, h.1, Or.inl ⟨rfl, hlt, rfl, rfl⟩⟩, h.2⟩
    | false => exact (need_no hi hat ho hw).mono fun _ _ h => ⟨⟨_, _, h.1, Or.inr ⟨rfl, rfl⟩⟩, h.2⟩
theorem kind_yes {l : List Tk} {a : Option Addr} {cap i : Nat} {bad : Bool} {w : World} {k : Int} {less : Nat} (hi : Its w a l) (hat : i ≤ 65536) (hk : (tokAt l i bad).kind = k) (hl : less ≤ (tokAt l i bad).text.size) :
    Calls Tryz.prog 106 #[.agg #[.slice a l.length cap, .int .i64 i, .bool bad], .int .i64 k, .int .i64 less] w fun e w' => e = .returned (.tuple #[.agg #[.slice a l.length cap, .int .i64 (nextAt i bad), .bool bad], .string ((tokAt l i bad).text.extract less (tokAt l i bad).text.size)]) ∧ Below w.heap.size w w' := by
  have hz := (tokAt_ok hi.2.2 i bad).2.1
  obtain ⟨t, ht⟩ : ∃ t, t = tokAt l i bad := ⟨_, rfl⟩
  have HT := hide ht
  rw [← ht] at hk hl hz ⊢
  clear ht
  subst hk
  have hne : (t.kind != t.kind) = false := by simp
  have hf0 := fieldT0 t.kind t.text
  have hf1 := fieldT1 t.kind t.text
  have hli : (less : Int) ≤ (t.text.size : Int) := by omega
  go_enter Tryz.func106, Tryz.ntmps106
  go_wp2_with fail
  refine named fun W1 hW1 => ?_
  have HS1 := onS hW1 (St.nil w).va.va
  clear hW1
  refine (tok_any (hi.below HS1.out.below)).mono ?_
  rintro e w2 ⟨rfl, hb2⟩
  rw [← HT.out]
  have HS2 := hide (HS1.out.call hb2)
  clear hb2 HS1
  have p0 := rD HS2
  go_wp2_with fail
  go_region_held3 (fun w' => w'.cell? ⟨w.heap.size, 0, none⟩ = some (.slice a l.length cap) ∧ w'.cell? ⟨w.heap.size, 1, none⟩ = some (.int .i64 i) ∧ w'.cell? ⟨w.heap.size, 2, none⟩ = some (.bool bad)) (go_keep)
    (first
      | (go_at_call 87; refine (next_any _ _ _ _ ⟨_, _, _, rfl⟩ (by omega)).mono ?_; rintro e w20 ⟨rfl, hb20⟩; have HS20 := hide (HS2.out.dr.call hb20); clear hb20; obtain ⟨q0, q1, q2, -⟩ := (HS20.out.get 0 rfl).three)
      | (go_at_call 86; refine (tok_any (hi.below HS20.out.below)).mono ?_; rintro e w21 ⟨rfl, hb21⟩; rw [← HT.out]; have HS21 := hide (HS20.out.call hb21); clear hb21; obtain ⟨r0, r1, r2, -⟩ := (HS21.out.get 0 rfl).three; obtain ⟨s0, s1, s2, s3, s4, s5⟩ := (HS21.out.get 1 rfl).three))
  go_wp2_with fail
  refine namedPost fun W3 hW3 => ?_
  have HS3 := onS hW3 (HS21.out.st3 1 rfl _ _ _)
  clear hW3 HS21
  exact ended_ps rfl rfl rfl (HS3.out.get 1 rfl) ⟨rfl, HS3.out.below⟩
theorem kind_no {l : List Tk} {a : Option Addr} {cap i : Nat} {bad : Bool} {w : World} {k : Int} {less : Nat} (hi : Its w a l) (hk : (tokAt l i bad).kind ≠ k) :
    Calls Tryz.prog 106 #[.agg #[.slice a l.length cap, .int .i64 i, .bool bad], .int .i64 k, .int .i64 less] w fun e w' => e = .returned (.tuple #[.agg #[.slice a l.length cap, .int .i64 i, .bool true], .string ⟨#[]⟩]) ∧ Below w.heap.size w w' := by
  obtain ⟨t, ht⟩ : ∃ t, t = tokAt l i bad := ⟨_, rfl⟩
  have HT := hide ht
  rw [← ht] at hk
  clear ht
  have hne : (t.kind != k) = true := by simpa using hk
  clear hk
  have hf0 := fieldT0 t.kind t.text
  go_enter Tryz.func106, Tryz.ntmps106
  go_wp2_with fail
  refine named fun W1 hW1 => ?_
  have HS1 := onS hW1 (St.nil w).va.va
  clear hW1
  refine (tok_any (hi.below HS1.out.below)).mono ?_
  rintro e w2 ⟨rfl, hb2⟩
  rw [← HT.out]
  have HS2 := hide (HS1.out.call hb2)
  clear hb2 HS1
  have p0 := rD HS2
  go_wp2_with fail
  refine (wrong_any _ _ _ _ ⟨_, _, _, rfl⟩).mono ?_
  rintro e w3 ⟨rfl, hb3⟩
  have HS3 := hide (HS2.out.call hb3)
  clear hb3 HS2
  clear p0
  have p0 := rD HS3
  go_wp2_with fail
  refine namedPost fun W4 hW4 => ?_
  have HS4 := onS hW4 (HS3.out.st3 1 rfl _ _ _)
  clear hW4 HS3
  clear p0
  exact ended_ps rfl rfl rfl (HS4.out.get 1 rfl) ⟨rfl, HS4.out.below⟩
/-- A text that a token hands over. -/
def KindP (l : List Tk) (i : Nat) (bad : Bool) (k : Int) (x : Value) (e : Ending) : Prop := ∃ (i' : Nat) (bad' : Bool) (s : ByteArray), e = .returned (.tuple #[.agg #[x, .int .i64 i', .bool bad'], .string s]) ∧ s.size ≤ 65536 ∧ StepR l i bad i' bad' ∧ (bad' = false → (tokAt l i bad).kind = k)
theorem kind_any {l : List Tk} {a : Option Addr} {cap i : Nat} {bad : Bool} {w : World} (k : Int) (less : Nat) (hi : Its w a l) (hat : i ≤ 65536) (hk : k ≠ 0) (hl : (tokAt l i bad).kind = k → less ≤ (tokAt l i bad).text.size) :
    Calls Tryz.prog 106 #[.agg #[.slice a l.length cap, .int .i64 i, .bool bad], .int .i64 k, .int .i64 less] w fun e w' => KindP l i bad k (.slice a l.length cap) e ∧ Below w.heap.size w w' := by
  by_cases h : (tokAt l i bad).kind = k
  · have hz := (tokAt_ok hi.2.2 i bad).2.1
    obtain ⟨rfl, hlt⟩ := tokAt_kind (l := l) (i := i) (b := bad) (by rw [h]; exact hk)
    exact (kind_yes hi hat h (hl h)).mono fun _ _ h' => ⟨⟨_, _, _, h'.1, by simp only [ByteArray.size_extract]; omega, Or.inl ⟨rfl, hlt, rfl, rfl⟩, fun _ => h⟩, h'.2⟩
  · exact (kind_no hi h).mono fun _ _ h' => ⟨⟨_, _, _, h'.1, by decide, Or.inr ⟨rfl, rfl⟩, fun e => by cases e⟩, h'.2⟩
theorem one_any {l : List Tk} {a : Option Addr} {cap i : Nat} {bad : Bool} {w : World} (k : Int) (hi : Its w a l) (hat : i ≤ 65536) (hk : k ≠ 0) :
    Calls Tryz.prog 99 #[.agg #[.slice a l.length cap, .int .i64 i, .bool bad], .int .i64 k] w fun e w' => (∃ (i' : Nat) (bad' : Bool), e = .returned (.agg #[.slice a l.length cap, .int .i64 i', .bool bad']) ∧ StepR l i bad i' bad' ∧ (bad' = false → (tokAt l i bad).kind = k)) ∧ Below w.heap.size w w' := by
  go_enter Tryz.func99, Tryz.ntmps99
  go_wp2_with fail
  refine named fun W1 hW1 => ?_
  have HS1 := onS hW1 (St.nil w).va.va
  clear hW1
  refine (kind_any k 0 (hi.below HS1.out.below) hat hk (fun _ => Nat.zero_le _)).mono ?_
  rintro e w2 ⟨⟨i', bad', s', rfl, hs, hr, hk'⟩, hb2⟩
  have HS2 := hide (HS1.out.call hb2)
  clear hb2 HS1
  have p0 := rD HS2
  have HR := hide hr
  have HK' := hide hk'
  clear hr hk' hs
  go_wp2_with fail
  have lv3 := lV HS2
  refine namedPost fun W3 hW3 => ?_
  have HS3 := onS hW3 (HS2.out.st3 1 rfl _ _ _).va
  clear hW3 HS2
  clear p0
  exact ended_p rfl rfl (HS3.out.get 1 rfl) ⟨⟨i', bad', rfl, HR.out, HK'.out⟩, HS3.out.below⟩
/-- A name, or none. -/
theorem name_any {l : List Tk} {a : Option Addr} {cap i : Nat} {bad : Bool} {w : World} (hi : Its w a l) (hat : i ≤ 65536) :
    Calls Tryz.prog 90 #[.agg #[.slice a l.length cap, .int .i64 i, .bool bad]] w fun e w' => KindP l i bad 3 (.slice a l.length cap) e ∧ Below w.heap.size w w' := by
  have hz := (tokAt_ok hi.2.2 i bad).2.1
  obtain ⟨t, ht⟩ : ∃ t, t = tokAt l i bad := ⟨_, rfl⟩
  have HT := hide ht
  rw [← ht] at hz
  clear ht
  have hf0 := fieldT0 t.kind t.text
  have hf1 := fieldT1 t.kind t.text
  by_cases hk : t.kind = 3
  · have hne : (t.kind != 3) = false := by simpa using hk
    have HK := hide hk
    clear hk
    go_enter Tryz.func90, Tryz.ntmps90
    go_wp2_with fail
    refine named fun W1 hW1 => ?_
    have HS1 := onS hW1 (St.nil w).va.va
    clear hW1
    refine (tok_any (hi.below HS1.out.below)).mono ?_
    rintro e w2 ⟨rfl, hb2⟩
    rw [← HT.out]
    have HS2 := hide (HS1.out.call hb2)
    clear hb2 HS1
    have p0 := rD HS2
    go_wp2_with fail
    refine (tok_any (hi.below HS2.out.below)).mono ?_
    rintro e w3 ⟨rfl, hb3⟩
    rw [← HT.out]
    have HS3 := hide (HS2.out.call hb3)
    clear hb3 HS2
    clear p0
    have p0 := rD HS3
    go_wp2_with fail
    refine (plainName_any t.text _ hz).mono ?_
    rintro e w4 ⟨⟨b, rfl⟩, hb4⟩
    have HS4 := hide (HS3.out.call hb4)
    clear hb4 HS3
    clear p0
    have p0 := rD HS4
    cases b with
    | true =>
     go_wp2_with fail
     go_region_held3 (fun w' => w'.cell? ⟨w.heap.size, 0, none⟩ = some (.slice a l.length cap) ∧ w'.cell? ⟨w.heap.size, 1, none⟩ = some (.int .i64 i) ∧ w'.cell? ⟨w.heap.size, 2, none⟩ = some (.bool bad)) (go_keep)
       (first
         | (go_at_call 87; refine (next_any _ _ _ _ ⟨_, _, _, rfl⟩ (by omega)).mono ?_; rintro e w20 ⟨rfl, hb20⟩; have HS20 := hide (HS4.out.dr.call hb20); clear hb20; obtain ⟨q0, q1, q2, -⟩ := (HS20.out.get 0 rfl).three)
         | (go_at_call 86; refine (tok_any (hi.below HS20.out.below)).mono ?_; rintro e w21 ⟨rfl, hb21⟩; rw [← HT.out]; have HS21 := hide (HS20.out.call hb21); clear hb21; obtain ⟨r0, r1, r2, -⟩ := (HS21.out.get 0 rfl).three; obtain ⟨s0, s1, s2, s3, s4, s5⟩ := (HS21.out.get 1 rfl).three))
     go_wp2_with fail
     refine namedPost fun W5 hW5 => ?_
     have HS5 := onS hW5 (HS21.out.st3 1 rfl _ _ _)
     clear hW5 HS21
     obtain ⟨rfl, hlt⟩ := tokAt_kind (l := l) (i := i) (b := bad) (by rw [← HT.out, HK.out]; decide)
     exact ended_ps rfl rfl rfl (HS5.out.get 1 rfl) ⟨⟨_, _, _, rfl, hz, Or.inl ⟨rfl, hlt, rfl, rfl⟩, fun _ => by rw [← HT.out]; exact HK.out⟩, HS5.out.below⟩
    | false =>
     go_wp2_with fail
     refine (wrong_any _ _ _ _ ⟨_, _, _, rfl⟩).mono ?_
     rintro e w6 ⟨rfl, hb6⟩
     have HS6 := hide (HS4.out.call hb6)
     clear hb6 HS4
     clear p0
     have p0 := rD HS6
     go_wp2_with fail
     refine namedPost fun W7 hW7 => ?_
     have HS7 := onS hW7 (HS6.out.st3 1 rfl _ _ _)
     clear hW7 HS6
     clear p0
     exact ended_ps rfl rfl rfl (HS7.out.get 1 rfl) ⟨⟨_, _, _, rfl, by decide, Or.inr ⟨rfl, rfl⟩, fun e => by cases e⟩, HS7.out.below⟩
  · have hne : (t.kind != 3) = true := by simpa using hk
    clear hk
    go_enter Tryz.func90, Tryz.ntmps90
    go_wp2_with fail
    refine named fun W1 hW1 => ?_
    have HS1 := onS hW1 (St.nil w).va.va
    clear hW1
    refine (tok_any (hi.below HS1.out.below)).mono ?_
    rintro e w2 ⟨rfl, hb2⟩
    rw [← HT.out]
    have HS2 := hide (HS1.out.call hb2)
    clear hb2 HS1
    have p0 := rD HS2
    go_wp2_with fail
    refine (wrong_any _ _ _ _ ⟨_, _, _, rfl⟩).mono ?_
    rintro e w3 ⟨rfl, hb3⟩
    have HS3 := hide (HS2.out.call hb3)
    clear hb3 HS2
    clear p0
    have p0 := rD HS3
    go_wp2_with fail
    refine namedPost fun W4 hW4 => ?_
    have HS4 := onS hW4 (HS3.out.st3 1 rfl _ _ _)
    clear hW4 HS3
    clear p0
    exact ended_ps rfl rfl rfl (HS4.out.get 1 rfl) ⟨⟨_, _, _, rfl, by decide, Or.inr ⟨rfl, rfl⟩, fun e => by cases e⟩, HS4.out.below⟩
end Go.Proofs.YtacgmmpdichlmaaGreat
namespace Go.Proofs.YtacgmmpdichlmaaGreat
open Go.RowKit

def rowsL : List (List ByteArray) := [[⟨#[124]⟩], [⟨#[44]⟩], [⟨#[47, 47]⟩], [⟨#[61]⟩, ⟨#[124, 61]⟩, ⟨#[43, 61]⟩, ⟨#[45, 61]⟩, ⟨#[42, 61]⟩, ⟨#[47, 61]⟩, ⟨#[37, 61]⟩, ⟨#[47, 47, 61]⟩], [⟨#[111, 114]⟩], [⟨#[97, 110, 100]⟩], [⟨#[61, 61]⟩, ⟨#[33, 61]⟩, ⟨#[60]⟩, ⟨#[60, 61]⟩, ⟨#[62]⟩, ⟨#[62, 61]⟩], [⟨#[43]⟩, ⟨#[45]⟩], [⟨#[42]⟩, ⟨#[47]⟩, ⟨#[37]⟩]]
/-- The table lies in memory. -/
def RowsIn (W : World) (b : Nat) : Prop := ∀ k (h : k < 9), ∃ g, W.cell? ⟨b, k, none⟩ = some (.slice (some ⟨g, 0, none⟩) (rowsL[k]'h).length (rowsL[k]'h).length) ∧ Blk W g 9 (strs (rowsL[k]'h))
theorem rows_any (w : World) : Calls Tryz.prog 111 #[] w fun e w' => (∃ b, e = .returned (.slice (some ⟨b, 0, none⟩) 9 9) ∧ RowsIn w' b) ∧ Below w.heap.size w w' := by
  go_enter Tryz.func111, Tryz.ntmps111
  go_wp2_with fail
  refine namedPost fun W hW => ?_
  have S : St w W [(w.heap.size, 9, strs [⟨#[124]⟩]), (w.heap.size + 1, 9, strs [⟨#[44]⟩]), (w.heap.size + 1 + 1, 9, strs [⟨#[47, 47]⟩]), (w.heap.size + 1 + 1 + 1, 9, strs [⟨#[61]⟩, ⟨#[124, 61]⟩, ⟨#[43, 61]⟩, ⟨#[45, 61]⟩, ⟨#[42, 61]⟩, ⟨#[47, 61]⟩, ⟨#[37, 61]⟩, ⟨#[47, 47, 61]⟩]), (w.heap.size + 1 + 1 + 1 + 1, 9, strs [⟨#[111, 114]⟩]), (w.heap.size + 1 + 1 + 1 + 1 + 1, 9, strs [⟨#[97, 110, 100]⟩]), (w.heap.size + 1 + 1 + 1 + 1 + 1 + 1, 9, strs [⟨#[61, 61]⟩, ⟨#[33, 61]⟩, ⟨#[60]⟩, ⟨#[60, 61]⟩, ⟨#[62]⟩, ⟨#[62, 61]⟩]), (w.heap.size + 1 + 1 + 1 + 1 + 1 + 1 + 1, 9, strs [⟨#[43]⟩, ⟨#[45]⟩]), (w.heap.size + 1 + 1 + 1 + 1 + 1 + 1 + 1 + 1, 9, strs [⟨#[42]⟩, ⟨#[47]⟩, ⟨#[37]⟩]), (w.heap.size + 1 + 1 + 1 + 1 + 1 + 1 + 1 + 1 + 1, 47, #[.slice (some ⟨w.heap.size, 0, none⟩) 1 1, .slice (some ⟨w.heap.size + 1, 0, none⟩) 1 1, .slice (some ⟨w.heap.size + 1 + 1, 0, none⟩) 1 1, .slice (some ⟨w.heap.size + 1 + 1 + 1, 0, none⟩) 8 8, .slice (some ⟨w.heap.size + 1 + 1 + 1 + 1, 0, none⟩) 1 1, .slice (some ⟨w.heap.size + 1 + 1 + 1 + 1 + 1, 0, none⟩) 1 1, .slice (some ⟨w.heap.size + 1 + 1 + 1 + 1 + 1 + 1, 0, none⟩) 6 6, .slice (some ⟨w.heap.size + 1 + 1 + 1 + 1 + 1 + 1 + 1, 0, none⟩) 2 2, .slice (some ⟨w.heap.size + 1 + 1 + 1 + 1 + 1 + 1 + 1 + 1, 0, none⟩) 3 3])] := hW ▸ (((((((((((St.nil w).var _ _ (by simp)).var _ _ (by simp)).var _ _ (by simp)).var _ _ (by simp)).var _ _ (by simp)).var _ _ (by simp)).var _ _ (by simp)).var _ _ (by simp)).var _ _ (by simp)).var _ _ (by simp))
  clear hW
  go_ret
  refine ⟨⟨_, rfl, fun k h => ?_⟩, S.below⟩
  have hr := S.get 9 rfl
  match k, h with
  | 0, _ => exact ⟨_, hr.cell 0, S.get 0 rfl⟩
  | 1, _ => exact ⟨_, hr.cell 1, S.get 1 rfl⟩
  | 2, _ => exact ⟨_, hr.cell 2, S.get 2 rfl⟩
  | 3, _ => exact ⟨_, hr.cell 3, S.get 3 rfl⟩
  | 4, _ => exact ⟨_, hr.cell 4, S.get 4 rfl⟩
  | 5, _ => exact ⟨_, hr.cell 5, S.get 5 rfl⟩
  | 6, _ => exact ⟨_, hr.cell 6, S.get 6 rfl⟩
  | 7, _ => exact ⟨_, hr.cell 7, S.get 7 rfl⟩
  | 8, _ => exact ⟨_, hr.cell 8, S.get 8 rfl⟩

/-- All operators of the table. -/
def opsL : List ByteArray := rowsL.flatten
theorem mem_ops {k j : Nat} (h : k < 9) (hj : j < (rowsL[k]'h).length) : (rowsL[k]'h)[j] ∈ opsL := List.mem_flatten.2 ⟨_, List.getElem_mem h, List.getElem_mem hj⟩
theorem rows_short {k : Nat} (h : k < 9) : (rowsL[k]'h).length ≤ 8 := by
  have : ∀ r ∈ rowsL, r.length ≤ 8 := by decide
  exact this _ (List.getElem_mem h)
theorem bytes_eq {s t : ByteArray} (h : (s.toList == t.toList) = true) : s = t := by
  rw [beq_iff_eq, Lib.toList_data, Lib.toList_data] at h
  exact ByteArray.ext (Array.toList_inj.1 h)
set_option maxHeartbeats 1000000 in
theorem level_any (s : ByteArray) (w : World) : Calls Tryz.prog 103 #[.string s] w fun e w' => (∃ n : Nat, e = .returned (.int .i64 n) ∧ n ≤ 9 ∧ (n ≠ 0 → s ∈ opsL)) ∧ Below w.heap.size w w' := by
  go_enter Tryz.func103, Tryz.ntmps103
  go_wp2_with fail
  refine (rows_any w).mono ?_
  rintro e w1 ⟨⟨b, rfl, hr⟩, hb⟩
  have HR := hide hr
  clear hr
  go_wp2_with fail
  go_loop [4] (fun i => ∃ k : Nat, k ≤ 9 ∧ i = .int .i64 k) (fun i => 9 - (intOf i).toNat)
  case atStart => exact ⟨0, by omega, rfl⟩
  case round =>
    obtain ⟨k, hk, rfl⟩ := hrel
    by_cases hlt : k < 9
    · obtain ⟨g, hc, hg⟩ := HR.out k hlt
      have HG := hide hg
      obtain ⟨m, hm⟩ : ∃ m, m = (rowsL[k]'hlt).length := ⟨_, rfl⟩
      have hm8 : m ≤ 8 := hm ▸ rows_short hlt
      have HM := hide hm
      rw [← hm] at hc
      clear hg hm
      go_wp2_with fail
      go_loop [5] (fun j => ∃ q : Nat, q ≤ m ∧ j = .int .i64 q) (fun j => m - (intOf j).toNat)
      case atStart => exact ⟨0, by omega, rfl⟩
      case round =>
        obtain ⟨q, hq, rfl⟩ := hrel
        by_cases hql : q < m
        · have hx : w1.cell? ⟨g, q, none⟩ = some (.string ((rowsL[k]'hlt)[q]'(HM.out ▸ hql))) := (HG.out.cell q).trans (strs_get (HM.out ▸ hql))
          have hmem := mem_ops hlt (HM.out ▸ hql)
          obtain ⟨o, ho⟩ : ∃ o, o = (rowsL[k]'hlt)[q]'(HM.out ▸ hql) := ⟨_, rfl⟩
          rw [← ho] at hx hmem
          have HO := hide hmem
          clear ho hmem
          cases hcmp : (o.toList == s.toList) with
          | true =>
            have HE := hide (bytes_eq hcmp)
            go_wp2_with fail
            go_ret
            exact ⟨⟨k + 1, by go_num, by omega, fun _ => HE.out ▸ HO.out⟩, hb⟩
          | false =>
            go_wp2_with fail
            go_round
            case rel => exact ⟨q + 1, by omega, by go_num⟩
            case measure => simp [intOf]; omega
        · go_wp2_with fail
          go_round
          case rel => exact ⟨k + 1, by omega, by go_num⟩
          case measure => simp [intOf]; omega
    · go_wp2_with fail
      go_ret
      exact ⟨⟨0, rfl, by omega, fun h => absurd rfl h⟩, hb⟩

def sidesC : Array Value := #[.int .i64 0, .int .i64 2, .int .i64 1, .int .i64 2, .int .i64 0, .int .i64 1, .int .i64 1, .int .i64 0, .int .i64 1, .int .i64 1]
theorem sides_get {n : Nat} (h : n ≤ 9) : ∃ x : Nat, sidesC[n]? = some (.int .i64 x) ∧ x ≤ 2 := by
  match n, h with
  | 0, _ => exact ⟨0, rfl, by omega⟩
  | 1, _ => exact ⟨2, rfl, by omega⟩
  | 2, _ => exact ⟨1, rfl, by omega⟩
  | 3, _ => exact ⟨2, rfl, by omega⟩
  | 4, _ => exact ⟨0, rfl, by omega⟩
  | 5, _ => exact ⟨1, rfl, by omega⟩
  | 6, _ => exact ⟨1, rfl, by omega⟩
  | 7, _ => exact ⟨0, rfl, by omega⟩
  | 8, _ => exact ⟨1, rfl, by omega⟩
  | 9, _ => exact ⟨1, rfl, by omega⟩
theorem side_any (s : ByteArray) (w : World) : Calls Tryz.prog 104 #[.string s] w fun e w' => (∃ n : Nat, e = .returned (.int .i64 n) ∧ n ≤ 2) ∧ Below w.heap.size w w' := by
  go_enter Tryz.func104, Tryz.ntmps104
  go_wp2_with fail
  refine named fun W hW => ?_
  have S : St w W [(w.heap.size, 3, sidesC)] := hW ▸ (St.nil w).var _ _ rfl
  clear hW
  refine (level_any s W).mono ?_
  rintro e w1 ⟨⟨n, rfl, hn, -⟩, hb⟩
  have S1 := S.call hb
  obtain ⟨x, hx, hx2⟩ := sides_get hn
  have hc : w1.cell? ⟨w.heap.size, n, none⟩ = some (.int .i64 x) := ((S1.get 0 rfl).cell n).trans hx
  have HS := hide S1
  clear S S1 hb hx
  go_wp2_with fail
  go_ret
  exact ⟨⟨x, rfl, hx2⟩, HS.out.below⟩
theorem right_any (s : ByteArray) (w : World) : Calls Tryz.prog 105 #[.string s] w fun e w' => (∃ n : Nat, e = .returned (.int .i64 n) ∧ n ≤ 10) ∧ Below w.heap.size w w' := by
  go_enter Tryz.func105, Tryz.ntmps105
  go_wp2_with fail
  refine (level_any s w).mono ?_
  rintro e w1 ⟨⟨n, rfl, hn, -⟩, hb⟩
  by_cases h0 : 0 < n
  · go_wp2_with fail
    refine (side_any s w1).mono ?_
    rintro e w2 ⟨⟨x, rfl, hx⟩, hb2⟩
    have hB := bl_call hb hb2
    clear hb hb2
    by_cases hx2 : x = 2
    · subst hx2
      go_wp2_with fail
      all_goals
        go_ret
        first | exact ⟨⟨n, rfl, by omega⟩, hB⟩ | exact ⟨⟨n + 1, by go_num, by omega⟩, hB⟩
    · have hxi : ((x : Int) != 2) = true := by simp; omega
      go_wp2_with fail
      all_goals
        go_ret
        first | exact ⟨⟨n, rfl, by omega⟩, hB⟩ | exact ⟨⟨n + 1, by go_num, by omega⟩, hB⟩
  · obtain rfl : n = 0 := by omega
    go_wp2_with fail
    all_goals
      go_ret
      first | exact ⟨⟨0, rfl, by omega⟩, hb⟩ | exact ⟨⟨0 + 1, by go_num, by omega⟩, hb⟩

/-- The operator that a token is: its text, or nothing. -/
def OfR (t : Tk) (s : ByteArray) : Prop := s = ⟨#[]⟩ ∨ (s = t.text ∧ (t.kind = 3 ∨ t.kind = 13))
theorem OfR.empty {t : Tk} : OfR t ⟨#[]⟩ := Or.inl rfl
theorem OfR.size {t : Tk} {s : ByteArray} (h : OfR t s) (ht : t.text.size ≤ 65536) : s.size ≤ 65536 := by
  rcases h with rfl | ⟨rfl, _⟩
  · decide
  · exact ht
theorem of_any (t : Tk) (w : World) : Calls Tryz.prog 110 #[.agg #[.int .i64 t.kind, .string t.text]] w fun e w' => (∃ s, e = .returned (.string s) ∧ OfR t s) ∧ Below w.heap.size w w' := by
  obtain ⟨k, s⟩ := t
  show Calls _ _ #[.agg #[.int .i64 k, .string s]] _ _
  by_cases h : k = 3 ∨ k = 13
  · have HK := hide h
    have h3 : (k != 3) = true ∧ (k != 13) = false ∨ (k != 3) = false := by rcases h with rfl | rfl <;> simp
    clear h
    rcases h3 with ⟨h3, h13⟩ | h3
    all_goals
      go_enter Tryz.func110, Tryz.ntmps110
      go_wp2_with fail
      refine named fun W hW => ?_
      have S : St w W [(w.heap.size, 66, #[.int .i64 k, .string s])] := hW ▸ (St.nil w).var _ _ rfl
      clear hW
      refine (level_any s W).mono ?_
      rintro e w1 ⟨⟨n, rfl, hn, -⟩, hb⟩
      have S1 := S.call hb
      obtain ⟨p0, p1, -⟩ := (S1.get 0 rfl).two
      have HS := hide S1
      clear S S1 hb
      by_cases h0 : n = 0
      · subst h0
        go_wp2_with fail
        go_ret
        exact ⟨⟨_, rfl, OfR.empty⟩, HS.out.below⟩
      · have h0i : ((n : Int) == 0) = false := by simp; omega
        go_wp2_with fail
        go_ret
        exact ⟨⟨_, rfl, Or.inr ⟨rfl, HK.out⟩⟩, HS.out.below⟩
  · have h3 : (k != 3) = true := by simp; omega
    have h13 : (k != 13) = true := by simp; omega
    clear h
    go_enter Tryz.func110, Tryz.ntmps110
    go_wp2_with fail
    go_ret
    exact ⟨⟨_, rfl, OfR.empty⟩, (Below.refl _ w).alloc (Nat.le_refl _) _⟩
theorem operTok_any {l : List Tk} {a : Option Addr} {cap i : Nat} {bad : Bool} {w : World} (hi : Its w a l) :
    Calls Tryz.prog 102 #[.agg #[.slice a l.length cap, .int .i64 i, .bool bad]] w fun e w' => (∃ s, e = .returned (.string s) ∧ OfR (tokAt l i bad) s) ∧ Below w.heap.size w w' := by
  go_enter Tryz.func102, Tryz.ntmps102
  go_wp2_with fail
  refine named fun W hW => ?_
  have hB : Below w.heap.size w W := hW ▸ (Below.refl _ w).alloc (Nat.le_refl _) _
  clear hW
  refine (tok_any (hi.below hB)).mono ?_
  rintro e w1 ⟨rfl, hb⟩
  have hB1 := bl_call hB hb
  clear hb hB
  go_wp2_with fail
  refine (of_any _ w1).mono ?_
  rintro e w2 ⟨⟨s, rfl, hs⟩, hb⟩
  have HO := hide hs
  have hB2 := bl_call hB1 hb
  clear hb hB1 hs
  go_wp2_with fail
  go_ret
  exact ⟨⟨s, rfl, HO.out⟩, hB2⟩
end Go.Proofs.YtacgmmpdichlmaaGreat
namespace Go.Proofs.YtacgmmpdichlmaaGreat
open Go.RowKit

/-- A place that is not ahead of the first one, and a node of not many more nodes than tokens. -/
def PN (l : List Tk) (a : Option Addr) (cap : Nat) (w : World) (i : Nat) (bad : Bool) (C : Nat) (e : Ending) (w' : World) : Prop :=
  (∃ (i' : Nat) (bad' : Bool) (d : Nd) (k : Int) (s : ByteArray) (y : Option Addr) (m c : Nat), e = .returned (.tuple #[.agg #[.slice a l.length cap, .int .i64 i', .bool bad'], .agg #[.int .i64 k, .string s, .slice y m c]]) ∧
    IsNd w' (New w.heap.size w') d (.agg #[.int .i64 k, .string s, .slice y m c]) ∧ (i ≤ i' ∧ i' ≤ l.length ∧ leftP l.length i' bad' ≤ leftP l.length i bad) ∧ d.count + 8 * i ≤ 8 * i' + C) ∧ Below w.heap.size w w'
theorem PN.more {l : List Tk} {a : Option Addr} {cap i C C' : Nat} {w w' : World} {bad : Bool} {e : Ending} (h : PN l a cap w i bad C e w') (hC : C ≤ C') : PN l a cap w i bad C' e w' := by
  obtain ⟨⟨i', bad', d, k, s, y, m, c, h1, h2, h3, h4⟩, h5⟩ := h
  exact ⟨⟨i', bad', d, k, s, y, m, c, h1, h2, h3, by omega⟩, h5⟩

theorem left_true (n i : Nat) : leftP n i true = 0 := rfl
theorem left_false (n i : Nat) : leftP n i false = n - i + 1 := rfl
/-- A step takes a token, or is wrong. -/
theorem StepR.out {l : List Tk} {i i' : Nat} {bad bad' : Bool} (h : StepR l i bad i' bad') (hi : i ≤ l.length) : i ≤ i' ∧ i' ≤ l.length ∧ leftP l.length i' bad' ≤ leftP l.length i bad ∧ i' ≤ i + 1 := by
  rcases h with ⟨rfl, h1, rfl, rfl⟩ | ⟨rfl, rfl⟩
  · rw [left_false, left_false]; omega
  · rw [left_true]; omega
theorem StepR.less {l : List Tk} {i i' : Nat} {bad' : Bool} (h : StepR l i false i' bad') (hi : i ≤ l.length) : leftP l.length i' bad' < leftP l.length i false := by
  rcases h with ⟨_, h1, rfl, rfl⟩ | ⟨rfl, rfl⟩
  · rw [left_false, left_false]; omega
  · rw [left_true, left_false]; omega
/-- What is taken, and how much is left. -/
theorem left_next {n i : Nat} (h : i < n) : leftP n (i + 1) false < leftP n i false := by rw [left_false, left_false]; omega
theorem left_wrong (n i : Nat) (b : Bool) : leftP n i true ≤ leftP n i b := by rw [left_true]; omega

/-- What is known of the parser's functions where less than m is left. -/
structure Kn (l : List Tk) (a : Option Addr) (cap m : Nat) : Prop where
  str : ∀ {i : Nat} {bad : Bool} {w : World}, Its w a l → i ≤ l.length → leftP l.length i bad < m → Calls Tryz.prog 88 #[.agg #[.slice a l.length cap, .int .i64 i, .bool bad]] w (PN l a cap w i bad 2)
  post : ∀ {i : Nat} {bad : Bool} {w : World}, Its w a l → i ≤ l.length → leftP l.length i bad < m → Calls Tryz.prog 108 #[.agg #[.slice a l.length cap, .int .i64 i, .bool bad]] w (PN l a cap w i bad 2)
  unit : ∀ {i : Nat} {bad : Bool} {w : World}, Its w a l → i ≤ l.length → leftP l.length i bad < m → Calls Tryz.prog 123 #[.agg #[.slice a l.length cap, .int .i64 i, .bool bad]] w (PN l a cap w i bad 2)
  value : ∀ {i : Nat} {bad : Bool} {w : World}, Its w a l → i ≤ l.length → leftP l.length i bad < m → Calls Tryz.prog 122 #[.agg #[.slice a l.length cap, .int .i64 i, .bool bad]] w (PN l a cap w i bad 2)
  pattern : ∀ {i : Nat} {bad : Bool} {w : World}, Its w a l → i ≤ l.length → leftP l.length i bad < m → Calls Tryz.prog 109 #[.agg #[.slice a l.length cap, .int .i64 i, .bool bad]] w (PN l a cap w i bad 2)
  keypat : ∀ {i : Nat} {bad : Bool} {w : World}, Its w a l → i ≤ l.length → leftP l.length i bad < m → Calls Tryz.prog 114 #[.agg #[.slice a l.length cap, .int .i64 i, .bool bad]] w (PN l a cap w i bad 6)
  pair : ∀ {i : Nat} {bad : Bool} {w : World}, Its w a l → i ≤ l.length → leftP l.length i bad < m → Calls Tryz.prog 119 #[.agg #[.slice a l.length cap, .int .i64 i, .bool bad]] w (PN l a cap w i bad 6)
  pipe : ∀ {i : Nat} {bad : Bool} {w : World}, Its w a l → i ≤ l.length → leftP l.length i bad < m → Calls Tryz.prog 72 #[.agg #[.slice a l.length cap, .int .i64 i, .bool bad]] w (PN l a cap w i bad 2)
  ifs : ∀ {i : Nat} {bad : Bool} {w : World}, Its w a l → i ≤ l.length → leftP l.length i bad < m → Calls Tryz.prog 120 #[.agg #[.slice a l.length cap, .int .i64 i, .bool bad]] w (PN l a cap w i bad 8)
  exp : ∀ {i : Nat} {bad : Bool} {w : World} (x : Nat), Its w a l → i ≤ l.length → leftP l.length i bad < m → Calls Tryz.prog 93 #[.agg #[.slice a l.length cap, .int .i64 i, .bool bad], .int .i64 x] w (PN l a cap w i bad 2)
  fold : ∀ {i : Nat} {bad : Bool} {w : World} (x y : Nat), x ≤ 100 → Its w a l → i ≤ l.length → leftP l.length i bad < m → Calls Tryz.prog 121 #[.agg #[.slice a l.length cap, .int .i64 i, .bool bad], .int .i64 x, .int .i64 y] w (PN l a cap w i bad 10)
  def_ : ∀ {i : Nat} {w : World} (top : Bool), Its w a l → i < l.length → leftP l.length i false < m → Calls Tryz.prog 71 #[.agg #[.slice a l.length cap, .int .i64 i, .bool false], .bool top] w (PN l a cap w i false 2)


/-- How much is left by the place that lies in block g. -/
def leftAt (n g : Nat) (w : World) : Nat :=
  match w.cell? ⟨g, 1, none⟩, w.cell? ⟨g, 2, none⟩ with
  | some (.int _ i), some (.bool b) => leftP n i.toNat b
  | _, _ => 0
theorem leftAt_of {n g : Nat} {w : World} {t : TypeId} {x : Value} {i : Nat} {b : Bool} (h : Blk w g t #[x, .int .i64 i, .bool b]) : leftAt n g w = leftP n i b := by
  have h1 := h.cell 1
  have h2 := h.cell 2
  simp only [leftAt, h1, h2]
  rfl
/-- How many nodes a list has. -/
def cntL (ds : List Nd) : Nat := (ds.map Nd.count).sum
theorem cntL_nil : cntL [] = 0 := rfl
theorem cntL_app (a b : List Nd) : cntL (a ++ b) = cntL a + cntL b := by rw [cntL, List.map_append, List.sum_append]; rfl
theorem cntL_one (a : Nd) : cntL [a] = a.count := by simp [cntL]
theorem cntL_two (a b : Nd) : cntL [a, b] = a.count + b.count := by simp [cntL]
theorem count_pos : ∀ d : Nd, 1 ≤ d.count
  | .mk _ _ _ => by rw [Nd.count]; omega
theorem len_cntL : ∀ ds : List Nd, ds.length ≤ cntL ds
  | [] => Nat.zero_le _
  | d :: ds => by
    have h1 := len_cntL ds
    have h2 := count_pos d
    simp only [cntL, List.map_cons, List.sum_cons, List.length_cons] at h1 ⊢
    omega
theorem cntOf (k : Int) (s : ByteArray) (l : List Nd) : (Nd.of k s l).count = 1 + cntL l := Nd.count_of k s l
theorem cntLeaf (k : Int) (s : ByteArray) : (Nd.mk k s .nil).count = 1 := rfl

theorem next_in {x : Value} {i n : Nat} {w : World} (h1 : ∃ a n c, x = .slice a n c) (hi : i < n) (hn : n ≤ 65536) :
    Calls Tryz.prog 87 #[.agg #[x, .int .i64 i, .bool false]] w fun e w' => (∃ j : Nat, e = .returned (.agg #[x, .int .i64 j, .bool false]) ∧ (i + 1 ≤ j ∧ j ≤ i + 1) ∧ j ≤ n ∧ leftP n j false < leftP n i false) ∧ Below w.heap.size w w' :=
  (next_any x i false w h1 (by omega)).mono fun _ _ h => ⟨⟨i + 1, h.1, by omega, by omega, left_next hi⟩, h.2⟩

theorem cnt0 (k : Int) (s : ByteArray) : (Nd.of k s []).count = 1 := by rw [Nd.count_of]; rfl
theorem cnt1 (k : Int) (s : ByteArray) (a : Nd) : (Nd.of k s [a]).count = 1 + a.count := by rw [Nd.count_of]; simp
theorem cnt2 (k : Int) (s : ByteArray) (a b : Nd) : (Nd.of k s [a, b]).count = 1 + a.count + b.count := by rw [Nd.count_of]; simp; omega
theorem cnt3 (k : Int) (s : ByteArray) (a b c : Nd) : (Nd.of k s [a, b, c]).count = 1 + a.count + b.count + c.count := by rw [Nd.count_of]; simp; omega
theorem cnt4 (k : Int) (s : ByteArray) (a b c d : Nd) : (Nd.of k s [a, b, c, d]).count = 1 + a.count + b.count + c.count + d.count := by rw [Nd.count_of]; simp; omega
theorem ended_nb {fn : Func} {p q : Tmp} {tmps : Array Value} {W : World} {R : Ending → World → Prop} {g : Nat} {x0 x1 x2 y : Value} (hr : fn.results = #[.cell p 24, .tmp q]) (hp : tmps.getD p undef = .pointer (some ⟨g, 0, none⟩)) (hq : tmps.getD q undef = y)
    (h0 : Blk W g 24 #[x0, x1, x2]) (hd : R (.returned (.tuple #[.agg #[x0, x1, x2], y])) W) : bodyPost Tryz.prog fn R .ret { tmps := tmps, defers := [] } W := by
  refine bodyPost_ret (v := .tuple #[.agg #[x0, x1, x2], y]) ?_ rfl hd
  have e0 := run_loadVar_row (P := Tryz.prog) W g 24 24 _ (0, 0) _ h0 Tryz.underlying24 rfl (by kernel_rfl)
  simp only [Array.getD_eq_getD_getElem?] at hp hq
  simp [results, hr, hp, hq, asAddr, e0]

/-- What leaf hands back. -/
def LeafR (i n : Nat) (bad : Bool) (e : Ending) : Prop := ∃ (k : Int) (s : ByteArray) (y : Bool), e = .returned (.tuple #[.agg #[.int .i64 k, .string s, .slice none 0 0], .bool y]) ∧ (0 ≤ k ∧ k ≤ 5) ∧ s.size ≤ 65536 ∧ (y = true → bad = false ∧ i < n)
theorem leaf_any {l : List Tk} {a : Option Addr} {cap i : Nat} {bad : Bool} {w : World} (hi : Its w a l) :
    Calls Tryz.prog 115 #[.agg #[.slice a l.length cap, .int .i64 i, .bool bad]] w fun e w' => LeafR i l.length bad e ∧ Below w.heap.size w w' := by
  have hok := tokAt_ok hi.2.2 i bad
  obtain ⟨t, ht⟩ : ∃ t, t = tokAt l i bad := ⟨_, rfl⟩
  have HT := hide ht
  rw [← ht] at hok
  have HIN := hide (show t.kind ≠ 0 → bad = false ∧ i < l.length from fun h => tokAt_kind (ht ▸ h))
  clear ht
  obtain ⟨-, hz, hone⟩ := hok
  by_cases h4 : t.kind = 4
  · have e4 : (t.kind == 4) = true := by simpa using h4
    have h1 : (1 : Int) ≤ (t.text.size : Int) := by have := hone (by omega); omega
    have H4 := hide h4
    clear h4 hone
    go_enter Tryz.func115, Tryz.ntmps115
    go_wp2_with fail
    refine named fun W1 hW1 => ?_
    have HS1 := onS hW1 (St.nil w).va.va
    clear hW1
    refine (tok_any (hi.below HS1.out.below)).mono ?_
    rintro e w2 ⟨rfl, hb2⟩
    rw [← HT.out]
    have HS2 := hide (HS1.out.call hb2)
    clear hb2 HS1
    have p0 := rD HS2
    go_wp2_with fail
    have lv3 := lV HS2
    refine namedPost fun W3 hW3 => ?_
    have HS3 := onS hW3 (HS2.out.st3 1 rfl _ _ _).va
    clear hW3 HS2
    clear p0
    exact ended_nb rfl rfl rfl (HS3.out.get 1 rfl) ⟨⟨_, _, _, rfl, by omega, by simp only [ByteArray.size_extract]; omega, fun _ => HIN.out (by rw [H4.out]; decide)⟩, HS3.out.below⟩
  have e4 : (t.kind == 4) = false := by simpa using h4
  clear h4
  by_cases h5 : t.kind = 5
  · have e5 : (t.kind == 5) = true := by simpa using h5
    have h1 : (1 : Int) ≤ (t.text.size : Int) := by have := hone (by omega); omega
    have H5 := hide h5
    clear h5 hone
    go_enter Tryz.func115, Tryz.ntmps115
    go_wp2_with fail
    refine named fun W1 hW1 => ?_
    have HS1 := onS hW1 (St.nil w).va.va
    clear hW1
    refine (tok_any (hi.below HS1.out.below)).mono ?_
    rintro e w2 ⟨rfl, hb2⟩
    rw [← HT.out]
    have HS2 := hide (HS1.out.call hb2)
    clear hb2 HS1
    have p0 := rD HS2
    go_wp2_with fail
    have lv3 := lV HS2
    refine namedPost fun W3 hW3 => ?_
    have HS3 := onS hW3 (HS2.out.st3 1 rfl _ _ _).va
    clear hW3 HS2
    clear p0
    exact ended_nb rfl rfl rfl (HS3.out.get 1 rfl) ⟨⟨_, _, _, rfl, by omega, by simp only [ByteArray.size_extract]; omega, fun _ => HIN.out (by rw [H5.out]; decide)⟩, HS3.out.below⟩
  have e5 : (t.kind == 5) = false := by simpa using h5
  clear h5
  by_cases h6 : t.kind = 6
  · have e6 : (t.kind == 6) = true := by simpa using h6
    have H6 := hide h6
    clear h6 hone
    go_enter Tryz.func115, Tryz.ntmps115
    go_wp2_with fail
    refine named fun W1 hW1 => ?_
    have HS1 := onS hW1 (St.nil w).va.va
    clear hW1
    refine (tok_any (hi.below HS1.out.below)).mono ?_
    rintro e w2 ⟨rfl, hb2⟩
    rw [← HT.out]
    have HS2 := hide (HS1.out.call hb2)
    clear hb2 HS1
    have p0 := rD HS2
    go_wp2_with fail
    have lv3 := lV HS2
    refine namedPost fun W3 hW3 => ?_
    have HS3 := onS hW3 (HS2.out.st3 1 rfl _ _ _).va
    clear hW3 HS2
    clear p0
    exact ended_nb rfl rfl rfl (HS3.out.get 1 rfl) ⟨⟨_, _, _, rfl, by omega, hz, fun _ => HIN.out (by rw [H6.out]; decide)⟩, HS3.out.below⟩
  have e6 : (t.kind == 6) = false := by simpa using h6
  clear h6
  clear hone
  go_enter Tryz.func115, Tryz.ntmps115
  go_wp2_with fail
  refine named fun W1 hW1 => ?_
  have HS1 := onS hW1 (St.nil w).va.va
  clear hW1
  refine (tok_any (hi.below HS1.out.below)).mono ?_
  rintro e w2 ⟨rfl, hb2⟩
  rw [← HT.out]
  have HS2 := hide (HS1.out.call hb2)
  clear hb2 HS1
  have p0 := rD HS2
  go_wp2_with fail
  have lv3 := lV HS2
  refine named fun W3 hW3 => ?_
  have HS3 := onS hW3 HS2.out.va
  clear hW3 HS2
  clear p0
  refine (op_any ⟨#[46, 46]⟩ (hi.below HS3.out.below)).mono ?_
  rintro e w4 ⟨rfl, hb4⟩
  rw [← HT.out]
  have HS4 := hide (HS3.out.call hb4)
  clear hb4 HS3
  have p0 := rD HS4
  cases ho : opB t ⟨#[46, 46]⟩ with
  | true =>
   have HO := hide ho
   clear ho
   go_wp2_with fail
   refine namedPost fun W5 hW5 => ?_
   have HS5 := onS hW5 (HS4.out.st3 1 rfl _ _ _)
   clear hW5 HS4
   clear p0
   exact ended_nb rfl rfl rfl (HS5.out.get 1 rfl) ⟨⟨_, _, _, rfl, by omega, by decide, fun _ => HIN.out (by rw [opB_kind HO.out]; decide)⟩, HS5.out.below⟩
  | false =>
   clear ho
   go_wp2_with fail
   refine namedPost fun W6 hW6 => ?_
   have HS6 := onS hW6 (HS4.out.st3 1 rfl _ _ _)
   clear hW6 HS4
   clear p0
   exact ended_nb rfl rfl rfl (HS6.out.get 1 rfl) ⟨⟨_, _, _, rfl, by omega, by decide, fun h => by cases h⟩, HS6.out.below⟩
end Go.Proofs.YtacgmmpdichlmaaGreat
