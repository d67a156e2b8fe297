/-
  Words for memory that every text of this seat uses: a block that is known whole, a fact that is hidden from the walk, the last step of a law's row, and small facts on worlds. No condition.
  Tokens and items: as lists, and how they lie in memory; a parser's place. No condition.
  The reference's signs: letters, digits, blanks, and how many of them stand at a text's front. No condition.
  The reference's signs: names, words, blanks, notes at a text's front: how many bytes. No condition but the text's length.
  The reference's Word: a name with pieces ahead. No condition but the text's length.
  The reference's Escape. Its condition: the text's length.
  The reference's Number. Its condition: the text's length.
  Nodes: as trees, and how one lies in memory. No condition.
  Lists of nodes: as a row of cells, as a slice. No condition.
  Rows of nodes that a call owns: append to one; what a maker of nodes hands back. Its condition: a row has at most 1000000 nodes.
  The plain law of brackets: paths, what stands at one, what is bare, which brackets there are, and what is left without one. No condition.
  append to a row that a call owns, whatever its elements: the run, the row's block, the step in a walk. Its condition: a row has at most 1000000 elements of at most 1000 bytes each.
  The last step of each row: a call that gives true and turns nothing old satisfies a row whose law says 'true; the input reads as it did'; and how bytes that came in read. No condition.
-/
import Derived.Test.YtacgmmpdichlmaaGreatRows
import Derived.WalkKit
import Derived.WalkSpells
import Derived.WalkLawsBesides
import Derived.OpenShut
import Derived.Deep.Draws
import Derived.Deep.QuietTactic
import Derived.BigQuiet
import Derived.ProofKit
import Derived.Lib.Hide
import Derived.Deep.DeepMust
import Derived.Deep.DeepFit
import Derived.RegionTactic
import Derived.ChangeAlike
import Derived.Lib.Strings
import Derived.Laws.Rows
import Derived.Carry
import Derived.Deep.Slices
import Derived.Deep.Fields
import Derived.ChangeSame
namespace Go.Proofs.YtacgmmpdichlmaaGreat
open Go.RowKit Go.WideShapes Go.ChangeShapes

theorem hide {p : Prop} (h : p) : Hid p := h
theorem unhide {p : Prop} (h : Hid p) : p := h

theorem drewEx {w : World} {a b : Nat} : ∃ c, (w.drewN a).drewN b = w.drewN c := ⟨_, World.drewN_drewN _ _ _⟩
theorem drewEx3 {w : World} {a b c : Nat} : ∃ d, ((w.drewN a).drewN b).drewN c = w.drewN d := ⟨_, by rw [World.drewN_drewN, World.drewN_drewN]⟩

/-- Block g is just the cells cs of element type t, none frozen. -/
def Blk (w : World) (g : Nat) (t : TypeId) (cs : Array Value) : Prop := w.heap[g]? = some (.cells cs t (0, 0))

section
variable {w w' : World} {g : Nat} {t : TypeId} {cs : Array Value}
theorem Blk.lt (h : Blk w g t cs) : g < w.heap.size := by
  rcases Nat.lt_or_ge g w.heap.size with hlt | hge
  · exact hlt
  · unfold Blk at h; rw [Array.getElem?_eq_none hge] at h; cases h
theorem Blk.cell (h : Blk w g t cs) (i : Nat) : w.cell? ⟨g, i, none⟩ = cs[i]? := cell_of_row w g i cs t (0, 0) h
theorem Blk.frozen (h : Blk w g t cs) (i : Nat) : w.frozen? ⟨g, i, none⟩ = false := by
  unfold Blk at h
  simp [World.frozen?, h]
theorem Blk.new (w : World) (t : TypeId) (cs : Array Value) : Blk (w.alloc (.cells cs t)) w.heap.size t cs := heap_alloc_new w _
theorem Blk.drew (h : Blk w g t cs) : Blk w.drew g t cs := h
theorem Blk.drewN (h : Blk w g t cs) (n : Nat) : Blk (w.drewN n) g t cs := h
theorem Blk.alloc (h : Blk w g t cs) (o : Obj) : Blk (w.alloc o) g t cs := (Below.heap_alloc w o g h.lt).trans h
theorem Blk.set_ (h : Blk w g t cs) (i : Nat) (u : Value) : Blk (w.setCell ⟨g, i, none⟩ u) g t (cs.setIfInBounds i u) := by
  unfold Blk at h ⊢
  simp [World.setCell, Array.getElem?_modify, h]
theorem Blk.far (h : Blk w g t cs) {p : Addr} (hp : g ≠ p.block) (u : Value) : Blk (w.setCell p u) g t cs := (Below.heap_setCell w p u g hp).trans h
theorem Blk.below {B : Nat} (h : Blk w g t cs) (hb : Below B w w') (hg : g < B) : Blk w' g t cs := (hb.block g hg).trans h
theorem Blk.grown {row : Option Nat} (h : Blk w g t cs) (hb : w.grownBy w' row) (hg : some g ≠ row) : Blk w' g t cs := (hb.block g h.lt hg).trans h
theorem Blk.one {x : Value} (h : Blk w g t #[x]) : w.cell? ⟨g, 0, none⟩ = some x ∧ w.frozen? ⟨g, 0, none⟩ = false := ⟨h.cell 0, h.frozen 0⟩
theorem Blk.two {x y : Value} (h : Blk w g t #[x, y]) : w.cell? ⟨g, 0, none⟩ = some x ∧ w.cell? ⟨g, 1, none⟩ = some y ∧ w.frozen? ⟨g, 0, none⟩ = false ∧ w.frozen? ⟨g, 1, none⟩ = false := ⟨h.cell 0, h.cell 1, h.frozen 0, h.frozen 1⟩
theorem Blk.three {x y z : Value} (h : Blk w g t #[x, y, z]) : w.cell? ⟨g, 0, none⟩ = some x ∧ w.cell? ⟨g, 1, none⟩ = some y ∧ w.cell? ⟨g, 2, none⟩ = some z ∧ w.frozen? ⟨g, 0, none⟩ = false ∧ w.frozen? ⟨g, 1, none⟩ = false ∧ w.frozen? ⟨g, 2, none⟩ = false := ⟨h.cell 0, h.cell 1, h.cell 2, h.frozen 0, h.frozen 1, h.frozen 2⟩
theorem Blk.ne_ {g' : Nat} {t' : TypeId} {cs' : Array Value} (h : Blk w g t cs) (h' : Blk w g' t' cs') (hne : t ≠ t') : g ≠ g' := by
  rintro rfl
  unfold Blk at h h'
  rw [h] at h'
  injection h' with h'
  injection h' with _ ht
  exact hne ht
theorem Blk.eq_ {cs' : Array Value} (h : Blk w g t cs) (e : cs = cs') : Blk w g t cs' := e ▸ h
theorem own_blk_ne {base : Nat} {e : TypeId} {size n : Nat} {v : Value} {xs : List Value} (h : w.ownsRow base e size v n xs) (hg : Blk w g t cs) (hne : e ≠ t) : v.ownBlock ≠ some g := by
  rcases h.2 with ⟨rfl, _⟩ | ⟨g', cap, cur, rfl, _, hh, _⟩
  · simp [Value.ownBlock]
  · intro he
    have : g' = g := by simpa [Value.ownBlock] using he
    subst this
    exact Blk.ne_ (t := e) hh hg hne rfl
end

theorem flatMap_get {α : Type} (f : α → List Value) (s : Nat) (hs : ∀ x, (f x).length = s) : ∀ (l : List α) (k : Nat) (x : α) (j : Nat), l[k]? = some x → j < s → (l.flatMap f)[k * s + j]? = (f x)[j]?
  | [], k, x, j, h, _ => by simp at h
  | y :: l, 0, x, j, h, hj => by
    obtain rfl : y = x := by simpa using h
    rw [List.flatMap_cons, List.getElem?_append_left (by rw [hs]; omega)]
    simp
  | y :: l, k + 1, x, j, h, hj => by
    have ih := flatMap_get f s hs l k x j (by simpa using h) hj
    rw [List.flatMap_cons, List.getElem?_append_right (by rw [hs, Nat.succ_mul]; omega), hs, ← ih]
    congr 1
    rw [Nat.succ_mul]; omega
theorem flatMap_len {α : Type} (f : α → List Value) (s : Nat) (hs : ∀ x, (f x).length = s) : ∀ (l : List α), (l.flatMap f).length = l.length * s
  | [] => by simp
  | y :: l => by rw [List.flatMap_cons, List.length_append, hs, flatMap_len f s hs l, List.length_cons, Nat.succ_mul]; omega
theorem cell_three_new (w : World) (x y z : Value) (t : TypeId) : ∀ (j : Nat) (u : Value), [x, y, z][j]? = some u → (w.alloc (.cells #[x, y, z] t)).cell? ((⟨w.heap.size, 0, none⟩ : Addr).add j) = some u := by
  intro j u h
  have hb := Blk.new w t #[x, y, z]
  match j, h with
  | 0, h => exact (hb.cell 0).trans (by simpa using h)
  | 1, h => exact (hb.cell 1).trans (by simpa using h)
  | 2, h => exact (hb.cell 2).trans (by simpa using h)
/-- A slice that owns a row is written out. -/
theorem own_form {w : World} {base size : Nat} {e : TypeId} {v : Value} {n : Nat} {xs : List Value} (h : w.ownsRow base e size v n xs) : ∃ a c, v = .slice a n c := by
  rcases h.2 with ⟨rfl, rfl⟩ | ⟨g, cap, cur, rfl, _⟩
  · exact ⟨_, _, rfl⟩
  · exact ⟨_, _, rfl⟩
theorem own_block {w : World} {base size : Nat} {e : TypeId} {a : Option Addr} {c n : Nat} {xs : List Value} (h : w.ownsRow base e size (.slice a n c) n xs) (hx : xs ≠ []) : ∃ g, a = some ⟨g, 0, none⟩ ∧ base ≤ g ∧ g < w.heap.size ∧ ∀ j, j < xs.length → w.cell? ⟨g, j, none⟩ = xs[j]? := by
  have hl := h.1
  have hc := h
  rcases h.2 with ⟨hv, hn⟩ | ⟨g, cap, cur, hv, hb, hg, _⟩
  · subst hn; exact absurd (List.eq_nil_of_length_eq_zero (by simpa using hl)) hx
  · simp only [Value.slice.injEq] at hv
    obtain ⟨rfl, -, rfl⟩ := hv
    exact ⟨g, rfl, hb, (Array.getElem?_eq_some_iff.1 hg).1, fun j hj => hc.cellAt j (by omega)⟩

section
variable {H : Type} {enc : TypeId × Value → H} {P : Program}
theorem post_of_below {f : Func} {s : ChangeSpec} {apart fresh handsOn again : Bool} {W W' : World} {args : Array Value} {v : Value} {ds gs : List (DataW H)} {before pa pv : List MemPlace}
    (hW : DataW.Whole enc P f.params.toList s.vars apart W args.toList ds gs before)
    (hres : ∀ (b : Nat) (sp : Nat → Bool) (hd : Bool), DataW.TrodAll enc P W' b sp hd f.resultTypes.toList (v.resultList f.resultTypes.size) (s.fn H (ds ++ gs)).results [])
    (hargs : ∀ sp : Nat → Bool, (∀ p ∈ before, sp p.block = true) → DataW.TrodAll enc P W' 0 sp true f.params.toList args.toList (s.fn H (ds ++ gs)).args pa)
    (hvars : ∀ sp : Nat → Bool, (∀ p ∈ before, sp p.block = true) → DataW.TrodVars enc P W' sp s.vars (s.fn H (ds ++ gs)).vars pv)
    (hps : before = pa ++ pv) (hb : Below W.heap.size W W')
    (hok : ∀ (j : Nat) (t : TypeId) (r : Value), f.resultTypes[j]? = some t → (v.resultList f.resultTypes.size)[j]? = some r → Value.okWide P W' .any 0 t r) :
    s.post enc P f apart fresh handsOn again W args v W' := by
  have hlt : ∀ p ∈ before, p.block < W.heap.size := fun p hp => hW.lt p hp
  have hold : ∀ p ∈ before, (fun b => decide (b < W.heap.size)) p.block = true := fun p hp => by simpa using hlt p hp
  refine ⟨ds, gs, before, [], pa, pv, hW, hres _ _ _, hargs _ hold, hvars _ hold, World.keptBut_mono (fun p hp => ⟨hp, ?_⟩) (hb.frame (· ∈ before)), fun _ => ?_⟩
  · rw [hps, List.mem_append] at hp
    exact Or.inr hp
  · obtain ⟨_, _, _, _, _, hz, hn⟩ := hW
    refine ⟨hok, _, _, ([] ++ pa) ++ pv, ⟨[] ++ pa, pv, trodAll_append (hargs _ (fun _ _ => rfl)) (hres _ _ _), hvars _ (fun _ _ => rfl), rfl, ?_, ?_⟩, ?_⟩
    · intro b off hp
      have hin : MemPlace.cell b off ∈ before := by rw [hps]; simpa using hp
      rw [hb.frozen (hlt _ hin)]
      exact hz b off hin
    · intro ha
      have := hn ha
      rw [hps] at this
      simpa using this
    · intro p hp _
      rw [hps]
      simpa using hp
end
end Go.Proofs.YtacgmmpdichlmaaGreat
namespace Go.Proofs.YtacgmmpdichlmaaGreat
open Go.RowKit

/-- A token. -/
structure Tk where
  kind : Int
  text : ByteArray

/-- A token's Text may be cut where the parser does. -/
def Tk.ok (t : Tk) : Prop := (-9223372036854775808 ≤ t.kind ∧ t.kind ≤ 9223372036854775807) ∧ t.text.size ≤ 65536 ∧ (t.kind = 4 ∨ t.kind = 5 → 1 ≤ t.text.size)
def Tk.no : Tk := ⟨0, ByteArray.empty⟩
theorem Tk.no_ok : Tk.no.ok := ⟨by show -9223372036854775808 ≤ (0 : Int) ∧ (0 : Int) ≤ _; omega, by decide, by rintro (h | h) <;> cases h⟩

/-- Items lie from cell o of block b on, four cells each: those of the token are the first two. -/
def IsItems (w : World) (F : Nat → Prop) (a : Option Addr) (l : List Tk) : Prop :=
  l ≠ [] → ∃ b o, a = some ⟨b, o, none⟩ ∧ F b ∧ ∀ k t, l[k]? = some t → w.cell? ⟨b, o + k * 4, none⟩ = some (.int .i64 t.kind) ∧ w.cell? ⟨b, o + k * 4 + 1, none⟩ = some (.string t.text)
theorem IsItems.keep {w w' : World} {F F' : Nat → Prop} {a : Option Addr} {l : List Tk} (h : IsItems w F a l) (hF : ∀ b, F b → F' b ∧ w'.heap[b]? = w.heap[b]?) : IsItems w' F' a l := fun hne => by
  obtain ⟨b, o, ha, hb, hc⟩ := h hne
  have he : ∀ i, w'.cell? ⟨b, i, none⟩ = w.cell? ⟨b, i, none⟩ := fun i => World.cell?_of_block (w := w) (hF b hb).2
  exact ⟨b, o, ha, (hF b hb).1, fun k t ht => by rw [he, he]; exact hc k t ht⟩
theorem IsItems.get {w : World} {F : Nat → Prop} {a : Option Addr} {l : List Tk} (h : IsItems w F a l) {k : Nat} (hk : k < l.length) : ∃ b o, a = some ⟨b, o, none⟩ ∧ F b ∧ w.cell? ⟨b, o + k * 4, none⟩ = some (.int .i64 l[k].kind) ∧ w.cell? ⟨b, o + k * 4 + 1, none⟩ = some (.string l[k].text) := by
  obtain ⟨b, o, ha, hb, hc⟩ := h (fun e => by subst e; simp at hk)
  exact ⟨b, o, ha, hb, hc k _ (List.getElem?_eq_getElem hk)⟩

/-- The token at hand. -/
def tokAt (l : List Tk) (at_ : Nat) (bad : Bool) : Tk := if bad then Tk.no else (l[at_]?).getD Tk.no
theorem tokAt_bad (l : List Tk) (i : Nat) : tokAt l i true = Tk.no := rfl
theorem tokAt_end {l : List Tk} {i : Nat} (h : l.length ≤ i) (b : Bool) : tokAt l i b = Tk.no := by
  unfold tokAt
  split
  · rfl
  · rw [List.getElem?_eq_none h]; rfl
theorem tokAt_in {l : List Tk} {i : Nat} (h : i < l.length) : tokAt l i false = l[i] := by
  unfold tokAt
  rw [if_neg (by decide), List.getElem?_eq_getElem h]; rfl
theorem tokAt_ok {l : List Tk} (h : ∀ t ∈ l, t.ok) (i : Nat) (b : Bool) : (tokAt l i b).ok := by
  cases b with
  | true => exact Tk.no_ok
  | false =>
    rcases Nat.lt_or_ge i l.length with hi | hi
    · rw [tokAt_in hi]; exact h _ (List.getElem_mem hi)
    · rw [tokAt_end hi]; exact Tk.no_ok
/-- A token is at hand only where one is. -/
theorem tokAt_kind {l : List Tk} {i : Nat} {b : Bool} (h : (tokAt l i b).kind ≠ 0) : b = false ∧ i < l.length := by
  cases b with
  | true => exact absurd rfl h
  | false =>
    rcases Nat.lt_or_ge i l.length with hi | hi
    · exact ⟨rfl, hi⟩
    · rw [tokAt_end hi] at h; exact absurd rfl h
/-- How much a parser has left to do. -/
def leftP (n at_ : Nat) (bad : Bool) : Nat := if bad then 0 else n - at_ + 1
end Go.Proofs.YtacgmmpdichlmaaGreat
namespace Go.Proofs.YtacgmmpdichlmaaGreat
open Go.RowKit

def letterB (c : Int) : Bool := (decide (97 ≤ c) && decide (c ≤ 122)) || (decide (65 ≤ c) && decide (c ≤ 90)) || decide (c = 95)
def digitB (c : Int) : Bool := decide (48 ≤ c) && decide (c ≤ 57)
def blankB (c : Int) : Bool := decide (c = 32) || decide (c = 9) || decide (c = 10) || decide (c = 13)

theorem ret_bool {a b : Bool} (h : a = b) : Ending.returned (.bool a) = .returned (.bool b) := by rw [h]
theorem letter_any (c : Int) (w : World) : Calls Tryz.prog 82 #[.int .u8 c] w fun e w' => e = .returned (.bool (letterB c)) ∧ w' = w := by
  go_enter Tryz.func82, Tryz.ntmps82
  go_wp2_with fail
  all_goals
    go_ret
    exact ⟨ret_bool (by rw [Bool.eq_iff_iff]; simp [letterB]; omega), rfl⟩
theorem digit_any (c : Int) (w : World) : Calls Tryz.prog 96 #[.int .u8 c] w fun e w' => e = .returned (.bool (digitB c)) ∧ w' = w := by
  go_enter Tryz.func96, Tryz.ntmps96
  go_wp2_with fail
  all_goals
    go_ret
    exact ⟨ret_bool (by rw [Bool.eq_iff_iff]; simp [digitB]; try omega), rfl⟩
theorem blank_any (c : Int) (w : World) : Calls Tryz.prog 78 #[.int .u8 c] w fun e w' => e = .returned (.bool (blankB c)) ∧ w' = w := by
  go_enter Tryz.func78, Tryz.ntmps78
  go_wp2_with fail
  all_goals
    go_ret
    exact ⟨ret_bool (by rw [Bool.eq_iff_iff]; simp [blankB]; try omega), rfl⟩

/-- How many bytes of a kind stand at a text's front, behind n of them. -/
def spanB (p : Int → Bool) (s : ByteArray) (n : Nat) : Prop := n ≤ s.size ∧ (∀ i (h : i < s.size), i < n → p s[i].toNat = true) ∧ (∀ h : n < s.size, p s[n].toNat = false)

theorem digits_any (s : ByteArray) (w : World) (hs : s.size ≤ maxLen) : Calls Tryz.prog 97 #[.string s] w fun e w' => (∃ n : Nat, e = .returned (.int .i64 n) ∧ spanB digitB s n) ∧ w' = w := by
  unfold maxLen at hs
  go_enter Tryz.func97, Tryz.ntmps97
  go_wp2_with fail
  go_loop [3] (fun n => ∃ k : Nat, k ≤ s.size ∧ n = .int .i64 k ∧ ∀ i (h : i < s.size), i < k → digitB s[i].toNat = true) (fun n => s.size - (intOf n).toNat)
  case atStart => exact ⟨0, Nat.zero_le _, rfl, fun i _ h => absurd h (Nat.not_lt_zero i)⟩
  case round =>
    obtain ⟨k, hk, rfl, hp⟩ := hrel
    have HP := hide hp
    clear hp
    by_cases hlt : k < s.size
    · go_wp2_with fail
      refine (digit_any s[k].toNat w).mono ?_
      rintro e w1 ⟨rfl, rfl⟩
      cases hd : digitB s[k].toNat with
      | true =>
        go_wp2_with fail
        go_round
        case rel => exact ⟨k + 1, by omega, by go_num, fun i h hi => by
          rcases Nat.lt_or_ge i k with hik | hik
          · exact HP.out i h hik
          · obtain rfl : i = k := by omega
            exact hd⟩
        case measure => simp [intOf]; omega
      | false =>
        go_wp2_with fail
        go_ret
        exact ⟨⟨k, rfl, hk, HP.out, fun _ => hd⟩, rfl⟩
    · go_wp2_with fail
      go_ret
      exact ⟨⟨k, rfl, hk, HP.out, fun h => absurd h hlt⟩, rfl⟩
end Go.Proofs.YtacgmmpdichlmaaGreat
namespace Go.Proofs.YtacgmmpdichlmaaGreat
open Go.RowKit

/-- A number of bytes at a text's front; some only where the first one is such. -/
def frontB (p : Int → Bool) (s : ByteArray) (n : Nat) : Prop := n ≤ s.size ∧ (0 < n → ∃ h : 0 < s.size, p s[0].toNat = true)

theorem toList_size (s : ByteArray) : s.toList.length = s.size := by rw [Lib.toList_data, Array.length_toList]; rfl
theorem toList_ne {s : ByteArray} (h : 0 < s.size) : ¬ s.toList = [] := fun e => by have := toList_size s; rw [e] at this; simp at this; omega
theorem isEmpty_no {s : ByteArray} (h : 0 < s.size) : s.toList.isEmpty = false := by have := toList_ne h; simpa using this
theorem toList_no {s : ByteArray} (h : ¬ 0 < s.size) : s.toList = [] := List.eq_nil_of_length_eq_zero (by rw [toList_size]; omega)

set_option maxHeartbeats 1000000 in
theorem simple_any (s : ByteArray) (w : World) (hs : s.size ≤ maxLen) : Calls Tryz.prog 95 #[.string s] w fun e w' => (∃ n : Nat, e = .returned (.int .i64 n) ∧ frontB letterB s n) ∧ w' = w := by
  unfold maxLen at hs
  by_cases h0 : 0 < s.size
  · have hne := toList_ne h0
    have hie := isEmpty_no h0
    go_enter Tryz.func95, Tryz.ntmps95
    go_wp2_with fail
    refine (letter_any s[0].toNat w).mono ?_
    rintro e w1 ⟨rfl, rfl⟩
    cases hl : letterB s[0].toNat with
    | false =>
      go_wp2_with fail
      go_ret
      exact ⟨⟨0, rfl, Nat.zero_le _, fun h => absurd h (Nat.lt_irrefl 0)⟩, rfl⟩
    | true =>
      go_wp2_with fail
      go_loop [3] (fun n => ∃ k : Nat, 1 ≤ k ∧ k ≤ s.size ∧ n = .int .i64 k) (fun n => s.size - (intOf n).toNat)
      case atStart => exact ⟨1, Nat.le_refl _, h0, rfl⟩
      case round =>
        obtain ⟨k, hk1, hk, rfl⟩ := hrel
        by_cases hlt : k < s.size
        · go_wp2_with fail
          refine (letter_any s[k].toNat _).mono ?_
          rintro e w2 ⟨rfl, rfl⟩
          cases hl2 : letterB s[k].toNat with
          | true =>
            go_wp2_with fail
            go_round
            case rel => exact ⟨k + 1, by omega, by omega, by go_num⟩
            case measure => simp [intOf]; omega
          | false =>
            go_wp2_with fail
            refine (digit_any s[k].toNat _).mono ?_
            rintro e w3 ⟨rfl, rfl⟩
            cases hd : digitB s[k].toNat with
            | true =>
              go_wp2_with fail
              go_round
              case rel => exact ⟨k + 1, by omega, by omega, by go_num⟩
              case measure => simp [intOf]; omega
            | false =>
              go_wp2_with fail
              go_ret
              exact ⟨⟨k, rfl, hk, fun _ => ⟨h0, hl⟩⟩, rfl⟩
        · go_wp2_with fail
          go_ret
          exact ⟨⟨k, rfl, hk, fun _ => ⟨h0, hl⟩⟩, rfl⟩
  · have hne := toList_no h0
    go_enter Tryz.func95, Tryz.ntmps95
    go_wp2_with fail
    go_ret
    exact ⟨⟨0, rfl, Nat.zero_le _, fun h => absurd h (Nat.lt_irrefl 0)⟩, rfl⟩
def IsBool (e : Ending) : Prop := ∃ b : Bool, e = .returned (.bool b)
theorem hex_any (c : Int) (w : World) : Calls Tryz.prog 94 #[.int .u8 c] w fun e w' => IsBool e ∧ w' = w := by
  go_enter Tryz.func94, Tryz.ntmps94
  go_wp2_with fail
  refine (digit_any c w).mono ?_
  rintro e w1 ⟨rfl, rfl⟩
  cases hl : digitB c <;> go_wp2_with fail
  all_goals
    go_ret
    exact ⟨⟨_, rfl⟩, rfl⟩
theorem more_any (c : Int) (w : World) (_h : 0 ≤ c) : Calls Tryz.prog 76 #[.int .u8 c] w fun e w' => (∃ n : Int, e = .returned (.int .i64 n) ∧ -1 ≤ n ∧ n ≤ 3 ∧ (c < 128 → n = 0)) ∧ w' = w := by
  go_enter Tryz.func76, Tryz.ntmps76
  go_wp2_with fail
  all_goals
    go_ret
    exact ⟨⟨_, rfl, by omega, by omega, fun h => by omega⟩, rfl⟩
theorem blanks_any (s : ByteArray) (w : World) (hs : s.size ≤ maxLen) : Calls Tryz.prog 79 #[.string s] w fun e w' => (∃ n : Nat, e = .returned (.int .i64 n) ∧ n ≤ s.size) ∧ w' = w := by
  unfold maxLen at hs
  go_enter Tryz.func79, Tryz.ntmps79
  go_wp2_with fail
  go_loop [3] (fun n => ∃ k : Nat, k ≤ s.size ∧ n = .int .i64 k) (fun n => s.size - (intOf n).toNat)
  case atStart => exact ⟨0, Nat.zero_le _, rfl⟩
  case round =>
    obtain ⟨k, hk, rfl⟩ := hrel
    by_cases hlt : k < s.size
    · go_wp2_with fail
      refine (blank_any s[k].toNat w).mono ?_
      rintro e w1 ⟨rfl, rfl⟩
      cases hd : blankB s[k].toNat with
      | true =>
        go_wp2_with fail
        go_round
        case rel => exact ⟨k + 1, by omega, by go_num⟩
        case measure => simp [intOf]; omega
      | false =>
        go_wp2_with fail
        go_ret
        exact ⟨⟨k, rfl, hk⟩, rfl⟩
    · go_wp2_with fail
      go_ret
      exact ⟨⟨k, rfl, hk⟩, rfl⟩
theorem part_any (s : ByteArray) (w : World) (hs : s.size ≤ maxLen) : Calls Tryz.prog 83 #[.string s] w fun e w' => (∃ n : Nat, e = .returned (.int .i64 n) ∧ n ≤ s.size) ∧ w' = w := by
  unfold maxLen at hs
  go_enter Tryz.func83, Tryz.ntmps83
  go_wp2_with fail
  go_loop [3] (fun n => ∃ k : Nat, k ≤ s.size ∧ n = .int .i64 k) (fun n => s.size - (intOf n).toNat)
  case atStart => exact ⟨0, Nat.zero_le _, rfl⟩
  case round =>
    obtain ⟨k, hk, rfl⟩ := hrel
    by_cases hlt : k < s.size
    · go_wp2_with fail
      refine (letter_any s[k].toNat w).mono ?_
      rintro e w1 ⟨rfl, rfl⟩
      cases hl : letterB s[k].toNat with
      | true =>
        go_wp2_with fail
        go_round
        case rel => exact ⟨k + 1, by omega, by go_num⟩
        case measure => simp [intOf]; omega
      | false =>
        go_wp2_with fail
        refine (digit_any s[k].toNat w1).mono ?_
        rintro e w2 ⟨rfl, rfl⟩
        cases hd : digitB s[k].toNat with
        | true =>
          go_wp2_with fail
          go_round
          case rel => exact ⟨k + 1, by omega, by go_num⟩
          case measure => simp [intOf]; omega
        | false =>
          go_wp2_with fail
          go_ret
          exact ⟨⟨k, rfl, hk⟩, rfl⟩
    · go_wp2_with fail
      go_ret
      exact ⟨⟨k, rfl, hk⟩, rfl⟩
end Go.Proofs.YtacgmmpdichlmaaGreat
namespace Go.Proofs.YtacgmmpdichlmaaGreat
open Go.RowKit

set_option maxHeartbeats 1000000 in
theorem word_any (s : ByteArray) (w : World) (hs : s.size ≤ 65536) : Calls Tryz.prog 81 #[.string s] w fun e w' => (∃ n : Nat, e = .returned (.int .i64 n) ∧ frontB letterB s n) ∧ w' = w := by
  have HM := hide (show s.size ≤ maxLen by simp only [maxLen]; omega)
  go_enter Tryz.func81, Tryz.ntmps81
  go_wp2_with fail
  refine (simple_any s w HM.out).mono ?_
  rintro e w1 ⟨⟨n, rfl, hn⟩, rfl⟩
  go_wp2_with fail
  go_loop [3] (fun n => ∃ k : Nat, n = .int .i64 k ∧ frontB letterB s k) (fun n => s.size - (intOf n).toNat)
  case atStart => exact ⟨n, rfl, hn⟩
  case round =>
    obtain ⟨k, rfl, hk, hl⟩ := hrel
    have HL := hide hl
    clear hl hn
    by_cases h0 : 0 < k
    · by_cases h2 : k + 2 < s.size
      · cases hq : ((s.extract k (k + 2)).toList == [58, 58]) with
        | false =>
          go_wp2_with fail
          all_goals
            go_ret
            exact ⟨⟨k, rfl, hk, HL.out⟩, rfl⟩
        | true =>
          go_wp2_with fail
          refine (simple_any (s.extract (k + 2) s.size) w1 (by simp only [ByteArray.size_extract, maxLen]; omega)).mono ?_
          rintro e w2 ⟨⟨m, rfl, hm, -⟩, rfl⟩
          rw [ByteArray.size_extract] at hm
          by_cases hm0 : 0 < m
          · go_wp2_with fail
            refine (simple_any (s.extract (k + 2) s.size) _ (by simp only [ByteArray.size_extract, maxLen]; omega)).mono ?_
            rintro e w3 ⟨⟨m2, rfl, hm2, -⟩, rfl⟩
            rw [ByteArray.size_extract] at hm2
            go_wp2_with fail
            go_round
            case rel => exact ⟨k + (2 + m2), by go_num, by omega, fun _ => HL.out h0⟩
            case measure => simp [intOf]; omega
          · go_wp2_with fail
            all_goals
              go_ret
              exact ⟨⟨k, rfl, hk, HL.out⟩, rfl⟩
      · go_wp2_with fail
        all_goals
          go_ret
          exact ⟨⟨k, rfl, hk, HL.out⟩, rfl⟩
    · go_wp2_with fail
      all_goals
        go_ret
        exact ⟨⟨k, rfl, hk, HL.out⟩, rfl⟩
set_option maxHeartbeats 1000000 in
theorem note_any (s : ByteArray) (w : World) (hs : s.size ≤ maxLen) : Calls Tryz.prog 80 #[.string s] w fun e w' => (∃ n : Nat, e = .returned (.int .i64 n) ∧ n ≤ s.size) ∧ w' = w := by
  unfold maxLen at hs
  go_enter Tryz.func80, Tryz.ntmps80
  go_wp2_with fail
  go_loop [3, 4] (fun n b => ∃ k q : Nat, n = .int .i64 k ∧ b = .int .i64 q ∧ k ≤ s.size ∧ q ≤ k) (fun n _ => s.size - (intOf n).toNat)
  case atStart => exact ⟨0, 0, rfl, rfl, Nat.zero_le _, Nat.le_refl _⟩
  case round =>
    obtain ⟨k, q, rfl, rfl, hk, hq⟩ := hrel
    by_cases hlt : k < s.size
    · go_wp2_with fail
      all_goals first
        | (go_ret; exact ⟨⟨k, rfl, hk⟩, rfl⟩)
        | (go_round
           case rel => first | exact ⟨k + 1, q + 1, by go_num, by go_num, by omega, by omega⟩ | exact ⟨k + 1, 0, by go_num, by go_num, by omega, by omega⟩ | exact ⟨k + 2, 0, by go_num, by go_num, by omega, by omega⟩
           case measure => simp [intOf]; omega)
    · go_wp2_with fail
      go_ret
      exact ⟨⟨k, rfl, hk⟩, rfl⟩
end Go.Proofs.YtacgmmpdichlmaaGreat
namespace Go.Proofs.YtacgmmpdichlmaaGreat
open Go.RowKit

theorem below_drewN {B : Nat} {a w : World} (h : Below B a w) (n : Nat) : Below B a (w.drewN n) := ⟨h.os, h.tape, h.output, h.size, h.block⟩
set_option maxHeartbeats 1000000 in
theorem escape_any (s : ByteArray) (w : World) (hs : s.size ≤ 65536) : Calls Tryz.prog 77 #[.string s] w fun e w' => (∃ n : Nat, e = .returned (.int .i64 n) ∧ n ≤ s.size) ∧ Below w.heap.size w w' := by
  by_cases h2 : 2 ≤ s.size
  · have h1s : (1 : Int) < (s.size : Int) := by omega
    by_cases h3 : s[0].toNat = 92
    · have h3' : ((s[0].toNat : Int) != 92) = false := by simp [h3]
      go_enter Tryz.func77, Tryz.ntmps77
      go_wp2_with fail
      go_loopw [3] (fun i wr => ∃ k : Nat, i = .int .i64 k ∧ k ≤ 8 ∧ Below w.heap.size w wr) (fun i _ => 8 - (intOf i).toNat)
      case atStart => exact ⟨0, rfl, by omega, Below.refl _ _⟩
      case round =>
        obtain ⟨k, rfl, hk, hb⟩ := hrel
        by_cases hlt : k < 8
        · go_wp2_with fail
          go_quiet (fail)
          go_wp2_with fail
          all_goals first
            | (go_ret; exact ⟨⟨2, rfl, h2⟩, below_drewN hb _⟩)
            | (go_roundw
               case rel => exact ⟨k + 1, by go_num, by omega, below_drewN hb _⟩
               case measure => simp [intOf]; omega)
            | exact ⟨⟨k + 1, by go_num, by omega, below_drewN hb _⟩, by simp [intOf]; omega⟩
        · by_cases h1 : s[1].toNat = 117
          · have h1' : ((s[1].toNat : Int) != 117) = false := by simp [h1]
            by_cases h6 : 6 ≤ s.size
            · go_wp2_with fail
              refine (hex_any s[2].toNat _).mono ?_
              rintro e w1 ⟨⟨x2, rfl⟩, rfl⟩
              cases x2
              · go_wp2_with fail
                go_ret
                exact ⟨⟨0, rfl, Nat.zero_le _⟩, hb⟩
              go_wp2_with fail
              refine (hex_any s[3].toNat _).mono ?_
              rintro e w1 ⟨⟨x3, rfl⟩, rfl⟩
              cases x3
              · go_wp2_with fail
                go_ret
                exact ⟨⟨0, rfl, Nat.zero_le _⟩, hb⟩
              go_wp2_with fail
              refine (hex_any s[4].toNat _).mono ?_
              rintro e w1 ⟨⟨x4, rfl⟩, rfl⟩
              cases x4
              · go_wp2_with fail
                go_ret
                exact ⟨⟨0, rfl, Nat.zero_le _⟩, hb⟩
              go_wp2_with fail
              refine (hex_any s[5].toNat _).mono ?_
              rintro e w1 ⟨⟨x5, rfl⟩, rfl⟩
              cases x5
              · go_wp2_with fail
                go_ret
                exact ⟨⟨0, rfl, Nat.zero_le _⟩, hb⟩
              go_wp2_with fail
              go_ret
              exact ⟨⟨6, rfl, h6⟩, hb⟩
            · go_wp2_with fail
              go_ret
              exact ⟨⟨0, rfl, Nat.zero_le _⟩, hb⟩
          · have h1' : ((s[1].toNat : Int) != 117) = true := by simp; omega
            go_wp2_with fail
            go_ret
            exact ⟨⟨0, rfl, Nat.zero_le _⟩, hb⟩
    · have h3' : ((s[0].toNat : Int) != 92) = true := by simp; omega
      go_enter Tryz.func77, Tryz.ntmps77
      go_wp2_with fail
      go_ret
      exact ⟨⟨0, rfl, Nat.zero_le _⟩, Below.refl _ _⟩
  · go_enter Tryz.func77, Tryz.ntmps77
    go_wp2_with fail
    go_ret
    exact ⟨⟨0, rfl, Nat.zero_le _⟩, Below.refl _ _⟩
end Go.Proofs.YtacgmmpdichlmaaGreat
namespace Go.Proofs.YtacgmmpdichlmaaGreat
open Go.RowKit

/-- digits of what stands behind. -/
theorem digits_at (s : ByteArray) (k : Nat) (w : World) (hs : s.size ≤ 65536) : Calls Tryz.prog 97 #[.string (s.extract k s.size)] w fun e w' => (∃ n : Nat, e = .returned (.int .i64 n) ∧ n ≤ s.size - k) ∧ w' = w :=
  (digits_any _ w (by simp only [ByteArray.size_extract, maxLen]; omega)).mono fun _ _ ⟨⟨n, h1, h2⟩, h3⟩ => ⟨⟨n, h1, by have := h2.1; simp only [ByteArray.size_extract] at this; omega⟩, h3⟩

/-- What a text without digits ahead tells. -/
theorem span_zero {s : ByteArray} {n : Nat} (h : spanB digitB s n) (h0 : 0 < s.size) (hd : digitB s[0].toNat = false) : n = 0 := by
  rcases Nat.eq_zero_or_pos n with h1 | h1
  · exact h1
  · have := h.2.1 0 h0 h1
    rw [hd] at this
    cases this
theorem span_one {s : ByteArray} {n : Nat} (h : spanB digitB s n) (h0 : 0 < s.size) (hd : digitB s[0].toNat = true) (h1 : ∀ h : 1 < s.size, digitB s[1].toNat = false) : n = 1 := by
  have hn : 0 < n := by
    rcases Nat.eq_zero_or_pos n with e | e
    · subst e
      have := h.2.2 h0
      rw [hd] at this
      cases this
    · exact e
  rcases Nat.lt_or_ge 1 n with e | e
  · have h2 : 1 < s.size := by have := h.1; omega
    have := h.2.1 1 h2 e
    rw [h1 h2] at this
    cases this
  · omega

set_option maxHeartbeats 1000000 in
/-- No digit and no point ahead: no number. -/
theorem number_none (s : ByteArray) (w : World) (hs : s.size ≤ 65536) (h0 : 0 < s.size) (hd : digitB s[0].toNat = false) (hp : s[0].toNat ≠ 46) : Calls Tryz.prog 84 #[.string s] w fun e w' => e = .returned (.int .i64 0) ∧ w' = w := by
  have hne := toList_ne h0
  have hie := isEmpty_no h0
  have hp' : ((s[0].toNat : Int) != 46) = true := by simp; omega
  go_enter Tryz.func84, Tryz.ntmps84
  go_wp2_with fail
  refine (digits_any s w (by simp only [maxLen]; omega)).mono ?_
  rintro e w1 ⟨⟨n, rfl, hn⟩, rfl⟩
  obtain rfl := span_zero hn h0 hd
  clear hn
  go_wp2_with fail
  all_goals
    go_ret
    exact ⟨rfl, rfl⟩
set_option maxHeartbeats 1000000 in
/-- One digit alone, or a bracket behind it. -/
theorem number_one (s : ByteArray) (w : World) (hs : s.size ≤ 65536) (h0 : 0 < s.size) (hd : digitB s[0].toNat = true) (h1 : ∀ h : 1 < s.size, s[1].toNat = 41) : Calls Tryz.prog 84 #[.string s] w fun e w' => e = .returned (.int .i64 1) ∧ w' = w := by
  have hne := toList_ne h0
  have hie := isEmpty_no h0
  by_cases h2 : 1 < s.size
  · have e1 := h1 h2
    have hp' : ((s[1].toNat : Int) == 46) = false := by simp; omega
    have hq' : ((s[1].toNat : Int) == 101) = false := by simp; omega
    have hr' : ((s[1].toNat : Int) == 69) = false := by simp; omega
    have h2i : (1 : Int) < (s.size : Int) := by omega
    go_enter Tryz.func84, Tryz.ntmps84
    go_wp2_with fail
    refine (digits_any s w (by simp only [maxLen]; omega)).mono ?_
    rintro e w1 ⟨⟨n, rfl, hn⟩, rfl⟩
    obtain rfl := span_one hn h0 hd (fun h => by rw [e1]; rfl)
    clear hn
    go_wp2_with fail
    all_goals
      go_ret
      exact ⟨rfl, rfl⟩
  · have h2i : ¬ (1 : Int) < (s.size : Int) := by omega
    go_enter Tryz.func84, Tryz.ntmps84
    go_wp2_with fail
    refine (digits_any s w (by simp only [maxLen]; omega)).mono ?_
    rintro e w1 ⟨⟨n, rfl, hn⟩, rfl⟩
    obtain rfl := span_one hn h0 hd (fun h => absurd h h2)
    clear hn
    go_wp2_with fail
    all_goals
      go_ret
      exact ⟨rfl, rfl⟩
end Go.Proofs.YtacgmmpdichlmaaGreat
namespace Go.Proofs.YtacgmmpdichlmaaGreat
open Go.RowKit

mutual
/-- A node. -/
inductive Nd where
  | mk (kind : Int) (text : ByteArray) (kids : Nds)
/-- Some nodes, one behind the other. -/
inductive Nds where
  | nil
  | cons (d : Nd) (r : Nds)
end

def Nds.len : Nds → Nat
  | .nil => 0
  | .cons _ r => r.len + 1
def Nds.toL : Nds → List Nd
  | .nil => []
  | .cons d r => d :: r.toL
def Nds.ofL : List Nd → Nds
  | [] => .nil
  | d :: r => .cons d (Nds.ofL r)
theorem Nds.toL_ofL : ∀ l : List Nd, (Nds.ofL l).toL = l
  | [] => rfl
  | d :: r => by rw [Nds.ofL, Nds.toL, Nds.toL_ofL r]
theorem Nds.ofL_toL : ∀ l : Nds, Nds.ofL l.toL = l
  | .nil => rfl
  | .cons d r => by rw [Nds.toL, Nds.ofL, Nds.ofL_toL r]
theorem Nds.len_toL : ∀ l : Nds, l.toL.length = l.len
  | .nil => rfl
  | .cons d r => by rw [Nds.toL, List.length_cons, Nds.len_toL r, Nds.len]
theorem Nds.len_ofL (l : List Nd) : (Nds.ofL l).len = l.length := by rw [← Nds.len_toL, Nds.toL_ofL]

def Nd.kind : Nd → Int
  | .mk k _ _ => k
def Nd.text : Nd → ByteArray
  | .mk _ s _ => s
def Nd.kids : Nd → List Nd
  | .mk _ _ ks => ks.toL
/-- A node of a list of Kids. -/
def Nd.of (k : Int) (s : ByteArray) (l : List Nd) : Nd := .mk k s (Nds.ofL l)
theorem Nd.of_kids (k : Int) (s : ByteArray) (ks : Nds) : Nd.of k s ks.toL = .mk k s ks := by rw [Nd.of, Nds.ofL_toL]
theorem Nd.kids_of (k : Int) (s : ByteArray) (l : List Nd) : (Nd.of k s l).kids = l := by rw [Nd.of, Nd.kids, Nds.toL_ofL]
/-- A node that is nothing. -/
def Nd.none_ : Nd := .mk 0 ByteArray.empty .nil

mutual
theorem Nd.ind_ {P : Nd → Prop} (h : ∀ k s ks, (∀ d ∈ Nds.toL ks, P d) → P (.mk k s ks)) : ∀ d, P d
  | .mk k s ks => h k s ks (Nds.ind_ h ks)
termination_by d => SizeOf.sizeOf d
theorem Nds.ind_ {P : Nd → Prop} (h : ∀ k s ks, (∀ d ∈ Nds.toL ks, P d) → P (.mk k s ks)) : ∀ ks, ∀ d ∈ Nds.toL ks, P d
  | .nil, d, hd => by simp [Nds.toL] at hd
  | .cons x r, d, hd => by
    rw [Nds.toL] at hd
    exact (List.mem_cons.1 hd).elim (fun h1 => h1 ▸ Nd.ind_ h x) (fun h2 => Nds.ind_ h r d h2)
termination_by ks => SizeOf.sizeOf ks
end

mutual
/-- How many nodes a node has, itself too. -/
def Nd.count : Nd → Nat
  | .mk _ _ ks => 1 + ks.count
def Nds.count : Nds → Nat
  | .nil => 0
  | .cons d r => d.count + r.count
end
theorem Nds.count_ofL : ∀ l : List Nd, (Nds.ofL l).count = (l.map Nd.count).sum
  | [] => rfl
  | d :: r => by rw [Nds.ofL, Nds.count, Nds.count_ofL r, List.map_cons, List.sum_cons]

mutual
/-- The value v reads as the node d; the Kids lie in blocks of F. -/
def IsNd (w : World) (F : Nat → Prop) : Nd → Value → Prop
  | .mk k s ks, v => ∃ (a : Option Addr) (cap : Nat), v = .agg #[.int .i64 k, .string s, .slice a ks.len cap] ∧ (-9223372036854775808 ≤ k ∧ k ≤ 9223372036854775807) ∧ s.size ≤ maxLen ∧ ks.len ≤ maxLen ∧
      (ks.len ≠ 0 → ∃ b o, a = some ⟨b, o, none⟩ ∧ F b ∧ IsNds w F b o ks)
/-- From cell o of block b on lie the nodes ks. -/
def IsNds (w : World) (F : Nat → Prop) (b : Nat) : Nat → Nds → Prop
  | _, .nil => True
  | o, .cons d r => (∃ c0 c1 c2, w.cell? ⟨b, o, none⟩ = some c0 ∧ w.cell? ⟨b, o + 1, none⟩ = some c1 ∧ w.cell? ⟨b, o + 2, none⟩ = some c2 ∧ IsNd w F d (.agg #[c0, c1, c2])) ∧ IsNds w F b (o + 3) r
end

mutual
theorem IsNd.keep {w w' : World} {F F' : Nat → Prop} (hF : ∀ b, F b → F' b ∧ w'.heap[b]? = w.heap[b]?) : ∀ (d : Nd) (v : Value), IsNd w F d v → IsNd w' F' d v
  | .mk k s ks, v, h => by
    rw [IsNd] at h ⊢
    obtain ⟨a, cap, h0, h1, h3, h4, h5⟩ := h
    refine ⟨a, cap, h0, h1, h3, h4, fun hne => ?_⟩
    obtain ⟨b, o, ha, hb, hk⟩ := h5 hne
    exact ⟨b, o, ha, (hF b hb).1, IsNds.keep hF ks b o hb hk⟩
theorem IsNds.keep {w w' : World} {F F' : Nat → Prop} (hF : ∀ b, F b → F' b ∧ w'.heap[b]? = w.heap[b]?) : ∀ (ks : Nds) (b o : Nat), F b → IsNds w F b o ks → IsNds w' F' b o ks
  | .nil, b, o, _, _ => by rw [IsNds]; trivial
  | .cons d r, b, o, hb, h => by
    rw [IsNds] at h ⊢
    obtain ⟨⟨c0, c1, c2, h0, h1, h2, h4⟩, h5⟩ := h
    have hc : ∀ i, w'.cell? ⟨b, i, none⟩ = w.cell? ⟨b, i, none⟩ := fun i => World.cell?_of_block (w := w) (hF b hb).2
    exact ⟨⟨c0, c1, c2, by rw [hc, h0], by rw [hc, h1], by rw [hc, h2], IsNd.keep hF d _ h4⟩, IsNds.keep hF r b (o + 3) hb h5⟩
end

theorem IsNds.get {w : World} {F : Nat → Prop} {b : Nat} : ∀ {ks : Nds} {o k : Nat} {d : Nd}, IsNds w F b o ks → ks.toL[k]? = some d →
    ∃ c0 c1 c2, w.cell? ⟨b, o + k * 3, none⟩ = some c0 ∧ w.cell? ⟨b, o + k * 3 + 1, none⟩ = some c1 ∧ w.cell? ⟨b, o + k * 3 + 2, none⟩ = some c2 ∧ IsNd w F d (.agg #[c0, c1, c2])
  | .nil, o, k, d, _, h => by simp [Nds.toL] at h
  | .cons x r, o, 0, d, h, hk => by
    rw [IsNds] at h
    obtain rfl : x = d := by simpa [Nds.toL] using hk
    simpa using h.1
  | .cons x r, o, k + 1, d, h, hk => by
    rw [IsNds] at h
    have := IsNds.get h.2 (k := k) (d := d) (by simpa [Nds.toL] using hk)
    rw [show o + (k + 1) * 3 = o + 3 + k * 3 by omega]
    exact this
theorem IsNd.form {w : World} {F : Nat → Prop} {d : Nd} {v : Value} (h : IsNd w F d v) : ∃ k s a m c, v = .agg #[.int .i64 k, .string s, .slice a m c] := by
  obtain ⟨k, s, ks⟩ := d
  rw [IsNd] at h
  obtain ⟨a, cap, h0, -⟩ := h
  exact ⟨k, s, a, _, cap, h0⟩
theorem IsNd.leaf {w : World} {F : Nat → Prop} {k : Int} {s : ByteArray} {cap : Nat} {a : Option Addr} (hk : -9223372036854775808 ≤ k ∧ k ≤ 9223372036854775807) (hs : s.size ≤ maxLen) : IsNd w F (.mk k s .nil) (.agg #[.int .i64 k, .string s, .slice a 0 cap]) := by
  rw [IsNd]
  exact ⟨a, cap, rfl, hk, hs, Nat.zero_le _, fun h => absurd rfl h⟩
theorem IsNd.below {w w' : World} {B : Nat} {d : Nd} {v : Value} (h : IsNd w (· < B) d v) (hb : Below B w w') (hB : B ≤ w'.heap.size) : IsNd w' (· < w'.heap.size) d v :=
  IsNd.keep (fun b hlt => ⟨Nat.lt_of_lt_of_le hlt hB, hb.block b hlt⟩) d v h
end Go.Proofs.YtacgmmpdichlmaaGreat
namespace Go.Proofs.YtacgmmpdichlmaaGreat
open Go.RowKit

/-- The cells xs read as the nodes ds, three cells each. -/
def IsRow (w : World) (F : Nat → Prop) : List Value → List Nd → Prop
  | [], [] => True
  | c0 :: c1 :: c2 :: xs, d :: ds => IsNd w F d (.agg #[c0, c1, c2]) ∧ IsRow w F xs ds
  | _, _ => False

theorem IsRow.nil {w : World} {F : Nat → Prop} : IsRow w F [] [] := by rw [IsRow]; trivial
theorem IsRow.cons {w : World} {F : Nat → Prop} {c0 c1 c2 : Value} {xs : List Value} {d : Nd} {ds : List Nd} : IsRow w F (c0 :: c1 :: c2 :: xs) (d :: ds) ↔ IsNd w F d (.agg #[c0, c1, c2]) ∧ IsRow w F xs ds := by rw [IsRow]

/-- The shape of a row. -/
theorem IsRow.out {w : World} {F : Nat → Prop} {xs : List Value} {d : Nd} {ds : List Nd} (h : IsRow w F xs (d :: ds)) : ∃ c0 c1 c2 ys, xs = c0 :: c1 :: c2 :: ys ∧ IsNd w F d (.agg #[c0, c1, c2]) ∧ IsRow w F ys ds := by
  match xs, h with
  | [], h => simp [IsRow] at h
  | [_], h => simp [IsRow] at h
  | [_, _], h => simp [IsRow] at h
  | c0 :: c1 :: c2 :: ys, h => exact ⟨c0, c1, c2, ys, rfl, IsRow.cons.1 h⟩
theorem IsRow.out_nil {w : World} {F : Nat → Prop} {xs : List Value} (h : IsRow w F xs []) : xs = [] := by
  match xs, h with
  | [], _ => rfl
  | [_], h => simp [IsRow] at h
  | [_, _], h => simp [IsRow] at h
  | _ :: _ :: _ :: _, h => simp [IsRow] at h

theorem IsRow.length {w : World} {F : Nat → Prop} : ∀ {ds : List Nd} {xs : List Value}, IsRow w F xs ds → xs.length = ds.length * 3
  | [], xs, h => by rw [h.out_nil]; rfl
  | d :: ds, xs, h => by
    obtain ⟨c0, c1, c2, ys, rfl, _, h2⟩ := h.out
    simp [IsRow.length h2]
    omega
theorem IsRow.append {w : World} {F : Nat → Prop} : ∀ {ds es : List Nd} {xs ys : List Value}, IsRow w F xs ds → IsRow w F ys es → IsRow w F (xs ++ ys) (ds ++ es)
  | [], es, xs, ys, h, k => by rw [h.out_nil]; exact k
  | d :: ds, es, xs, ys, h, k => by
    obtain ⟨c0, c1, c2, zs, rfl, h1, h2⟩ := h.out
    exact IsRow.cons.2 ⟨h1, IsRow.append h2 k⟩
theorem IsRow.one {w : World} {F : Nat → Prop} {d : Nd} {c0 c1 c2 : Value} (h : IsNd w F d (.agg #[c0, c1, c2])) : IsRow w F [c0, c1, c2] [d] := IsRow.cons.2 ⟨h, IsRow.nil⟩
theorem IsRow.take {w : World} {F : Nat → Prop} : ∀ {ds : List Nd} {xs : List Value} (k : Nat), IsRow w F xs ds → IsRow w F (xs.take (k * 3)) (ds.take k)
  | _, _, 0, _ => by simpa using IsRow.nil
  | [], xs, k + 1, h => by rw [h.out_nil]; simpa using IsRow.nil
  | d :: ds, xs, k + 1, h => by
    obtain ⟨c0, c1, c2, ys, rfl, h1, h2⟩ := h.out
    rw [show (k + 1) * 3 = k * 3 + 3 by omega]
    simp only [List.take_succ_cons]
    exact IsRow.cons.2 ⟨h1, IsRow.take k h2⟩
theorem IsRow.drop {w : World} {F : Nat → Prop} : ∀ {ds : List Nd} {xs : List Value} (k : Nat), IsRow w F xs ds → IsRow w F (xs.drop (k * 3)) (ds.drop k)
  | _, _, 0, h => by simpa using h
  | [], xs, k + 1, h => by rw [h.out_nil]; simpa using IsRow.nil
  | d :: ds, xs, k + 1, h => by
    obtain ⟨c0, c1, c2, ys, rfl, h1, h2⟩ := h.out
    rw [show (k + 1) * 3 = k * 3 + 3 by omega]
    simp only [List.drop_succ_cons]
    exact IsRow.drop k h2
theorem IsRow.keep {w w' : World} {F F' : Nat → Prop} (hF : ∀ b, F b → F' b ∧ w'.heap[b]? = w.heap[b]?) : ∀ {ds : List Nd} {xs : List Value}, IsRow w F xs ds → IsRow w' F' xs ds
  | [], xs, h => by rw [h.out_nil]; exact IsRow.nil
  | d :: ds, xs, h => by
    obtain ⟨c0, c1, c2, ys, rfl, h1, h2⟩ := h.out
    exact IsRow.cons.2 ⟨IsNd.keep hF _ _ h1, IsRow.keep hF h2⟩
theorem IsRow.get {w : World} {F : Nat → Prop} : ∀ {ds : List Nd} {xs : List Value} {k : Nat} {d : Nd}, IsRow w F xs ds → ds[k]? = some d →
    ∃ c0 c1 c2, xs[k * 3]? = some c0 ∧ xs[k * 3 + 1]? = some c1 ∧ xs[k * 3 + 2]? = some c2 ∧ IsNd w F d (.agg #[c0, c1, c2])
  | [], xs, k, d, _, h => by simp at h
  | x :: ds, xs, 0, d, h, hk => by
    obtain ⟨c0, c1, c2, ys, rfl, h1, _⟩ := h.out
    obtain rfl : x = d := by simpa using hk
    exact ⟨c0, c1, c2, rfl, rfl, rfl, h1⟩
  | x :: ds, xs, k + 1, d, h, hk => by
    obtain ⟨c0, c1, c2, ys, rfl, _, h2⟩ := h.out
    obtain ⟨e0, e1, e2, g0, g1, g2, g4⟩ := IsRow.get h2 (k := k) (d := d) (by simpa using hk)
    refine ⟨e0, e1, e2, ?_, ?_, ?_, g4⟩
    · rw [show (k + 1) * 3 = k * 3 + 3 by omega]; simpa using g0
    · rw [show (k + 1) * 3 + 1 = k * 3 + 1 + 3 by omega]; simpa using g1
    · rw [show (k + 1) * 3 + 2 = k * 3 + 2 + 3 by omega]; simpa using g2

theorem IsNd.cells {w : World} {F : Nat → Prop} {d : Nd} {c0 c1 c2 : Value} (h : IsNd w F d (.agg #[c0, c1, c2])) : c0.oneCell' = true ∧ c1.oneCell' = true ∧ c2.oneCell' = true := by
  obtain ⟨k, s, a, m, cap, hv⟩ := h.form
  simp only [Value.agg.injEq, Array.mk.injEq, List.cons.injEq, and_true] at hv
  obtain ⟨rfl, rfl, rfl⟩ := hv
  exact ⟨rfl, rfl, rfl⟩
theorem IsRow.oneCell {w : World} {F : Nat → Prop} : ∀ {ds : List Nd} {xs : List Value}, IsRow w F xs ds → ∀ u ∈ xs, u.oneCell' = true
  | [], xs, h, u, hu => by rw [h.out_nil] at hu; simp at hu
  | d :: ds, xs, h, u, hu => by
    obtain ⟨c0, c1, c2, ys, rfl, h1, h2⟩ := h.out
    obtain ⟨g0, g1, g2⟩ := h1.cells
    simp only [List.mem_cons] at hu
    rcases hu with rfl | rfl | rfl | hu
    · exact g0
    · exact g1
    · exact g2
    · exact IsRow.oneCell h2 u hu

/-- A row that lies in a block. -/
theorem IsRow.nds {w : World} {F : Nat → Prop} {b : Nat} : ∀ {ds : List Nd} {xs : List Value} {o : Nat}, (∀ j u, xs[j]? = some u → w.cell? ⟨b, o + j, none⟩ = some u) → IsRow w F xs ds → IsNds w F b o (Nds.ofL ds)
  | [], xs, o, _, _ => by rw [Nds.ofL, IsNds]; trivial
  | d :: ds, xs, o, hc, h => by
    obtain ⟨c0, c1, c2, ys, rfl, h1, h2⟩ := h.out
    rw [Nds.ofL, IsNds]
    refine ⟨⟨c0, c1, c2, by simpa using hc 0 c0 rfl, hc 1 c1 rfl, hc 2 c2 rfl, h1⟩, IsRow.nds (fun j u hu => ?_) h2⟩
    rw [show o + 3 + j = o + (j + 3) by omega]
    exact hc (j + 3) u (by simpa using hu)
theorem IsNds.row {w : World} {F : Nat → Prop} {b : Nat} : ∀ {ks : Nds} {o : Nat}, IsNds w F b o ks → ∃ xs, IsRow w F xs ks.toL ∧ ∀ j u, xs[j]? = some u → w.cell? ⟨b, o + j, none⟩ = some u
  | .nil, o, _ => ⟨[], by rw [Nds.toL]; exact IsRow.nil, fun j u h => by simp at h⟩
  | .cons d r, o, h => by
    rw [IsNds] at h
    obtain ⟨⟨c0, c1, c2, h0, h1, h2, h4⟩, h5⟩ := h
    obtain ⟨xs, hx, hc⟩ := IsNds.row h5
    refine ⟨c0 :: c1 :: c2 :: xs, by rw [Nds.toL]; exact IsRow.cons.2 ⟨h4, hx⟩, fun j u hu => ?_⟩
    match j, hu with
    | 0, hu => simpa using h0.trans hu
    | 1, hu => exact h1.trans hu
    | 2, hu => exact h2.trans hu
    | j + 3, hu =>
      have := hc j u (by simpa using hu)
      rw [show o + (j + 3) = o + 3 + j by omega]
      exact this

/-- The slice reads as the nodes. -/
def IsSl (w : World) (F : Nat → Prop) (ds : List Nd) (v : Value) : Prop :=
  ∃ (a : Option Addr) (cap : Nat), v = .slice a ds.length cap ∧ ds.length ≤ maxLen ∧ (ds.length ≠ 0 → ∃ b o, a = some ⟨b, o, none⟩ ∧ F b ∧ IsNds w F b o (Nds.ofL ds))

theorem IsSl.keep {w w' : World} {F F' : Nat → Prop} (hF : ∀ b, F b → F' b ∧ w'.heap[b]? = w.heap[b]?) {ds : List Nd} {v : Value} (h : IsSl w F ds v) : IsSl w' F' ds v := by
  obtain ⟨a, cap, rfl, hl, hk⟩ := h
  refine ⟨a, cap, rfl, hl, fun hne => ?_⟩
  obtain ⟨b, o, ha, hb, hd⟩ := hk hne
  exact ⟨b, o, ha, (hF b hb).1, IsNds.keep hF _ b o hb hd⟩

theorem IsNd.split {w : World} {F : Nat → Prop} {k : Int} {s : ByteArray} {ks : Nds} {v : Value} (h : IsNd w F (.mk k s ks) v) :
    ∃ x, v = .agg #[.int .i64 k, .string s, x] ∧ (-9223372036854775808 ≤ k ∧ k ≤ 9223372036854775807) ∧ s.size ≤ maxLen ∧ IsSl w F ks.toL x := by
  rw [IsNd] at h
  obtain ⟨a, cap, h0, h1, h3, h4, h5⟩ := h
  refine ⟨_, h0, h1, h3, a, cap, by rw [Nds.len_toL], by rw [Nds.len_toL]; exact h4, fun hne => ?_⟩
  rw [Nds.ofL_toL]
  exact h5 (by rwa [Nds.len_toL] at hne)
theorem IsNd.join {w : World} {F : Nat → Prop} {k : Int} {s : ByteArray} {ds : List Nd} {x : Value} (hk : -9223372036854775808 ≤ k ∧ k ≤ 9223372036854775807) (hs : s.size ≤ maxLen) (h : IsSl w F ds x) :
    IsNd w F (Nd.of k s ds) (.agg #[.int .i64 k, .string s, x]) := by
  obtain ⟨a, cap, rfl, hl, hd⟩ := h
  rw [Nd.of, IsNd, Nds.len_ofL]
  exact ⟨a, cap, rfl, hk, hs, hl, hd⟩
theorem IsSl.nil {w : World} {F : Nat → Prop} (a : Option Addr) (c : Nat) : IsSl w F [] (.slice a 0 c) := ⟨a, c, rfl, Nat.zero_le _, fun h => absurd rfl h⟩

/-- A row that was made by appending, as a slice. -/
theorem IsSl.of_own {w : World} {F : Nat → Prop} {base : Nat} {v : Value} {xs : List Value} {ds : List Nd} (h : w.ownsRow base 24 3 v ds.length xs) (hx : IsRow w F xs ds) (hF : ∀ g, v.ownBlock = some g → F g) : IsSl w F ds v := by
  have hc := h
  rcases h.2 with ⟨rfl, hn⟩ | ⟨g, cap, cur, rfl, _, _, hnc, hcm, _⟩
  · exact ⟨none, 0, by rw [hn], by omega, fun hne => absurd hn hne⟩
  · refine ⟨some ⟨g, 0, none⟩, cap, rfl, by omega, fun _ => ⟨g, 0, rfl, hF g rfl, IsRow.nds (fun j u hu => ?_) hx⟩⟩
    have hj : j < ds.length * 3 := by
      have := (List.getElem?_eq_some_iff.1 hu).1
      rwa [hx.length] at this
    rw [Nat.zero_add, hc.cellAt j hj, hu]
/-- A slice that was just made of nodes. -/
theorem IsSl.lit {w : World} {F : Nat → Prop} {t : TypeId} {xs : List Value} {ds : List Nd} (h : IsRow w F xs ds) (hF : ∀ b, F b → b < w.heap.size) (hl : ds.length ≤ maxLen) :
    IsSl (w.alloc (.cells xs.toArray t)) (fun b => F b ∨ b = w.heap.size) ds (.slice (some ⟨w.heap.size, 0, none⟩) ds.length ds.length) := by
  refine ⟨some ⟨w.heap.size, 0, none⟩, ds.length, rfl, hl, fun _ => ⟨w.heap.size, 0, rfl, Or.inr rfl, IsRow.nds (fun j u hu => ?_) (h.keep (fun b hb => ⟨Or.inl hb, Below.heap_alloc w _ b (hF b hb)⟩))⟩⟩
  have := (Blk.new w t xs.toArray).cell j
  rw [Nat.zero_add, this]
  simpa using hu
end Go.Proofs.YtacgmmpdichlmaaGreat
namespace Go.Proofs.YtacgmmpdichlmaaGreat
open Go.RowKit

theorem infoNd : (Tryz.prog.info? 24).map (fun i => (i.zero, i.size, i.bytes)) = some (some (.agg #[.int .i64 0, .string ByteArray.empty, .slice none 0 0]), 3, 48) := by kernel_rfl
theorem own_below {w w' : World} {base size n : Nat} {e : TypeId} {v : Value} {xs : List Value} (h : w.ownsRow base e size v n xs) (hb : Below w.heap.size w w') : w'.ownsRow base e size v n xs := by
  refine ⟨h.1, ?_⟩
  rcases h.2 with hn | ⟨g, cap, cur, hv, hb', hgg, rest⟩
  · exact .inl hn
  · exact .inr ⟨g, cap, cur, hv, hb', (hb.block g (Array.getElem?_eq_some_iff.1 hgg).1).trans hgg, rest⟩
theorem own_heap {w w' : World} {base size n : Nat} {e : TypeId} {v : Value} {xs : List Value} (h : w.ownsRow base e size v n xs) (hh : ∀ b, base ≤ b → w'.heap[b]? = w.heap[b]?) : w'.ownsRow base e size v n xs := by
  refine ⟨h.1, ?_⟩
  rcases h.2 with hn | ⟨g, cap, cur, hv, hb, hgg, rest⟩
  · exact .inl hn
  · exact .inr ⟨g, cap, cur, hv, hb, (hh g hb).trans hgg, rest⟩

theorem append_run {w : World} {base n : Nat} {v : Value} {xs : List Value} (hown : w.ownsRow base 24 3 v n xs) (b o m c : Nat) (news : List Value) (hl : news.length = m * 3)
    (hnews : ∀ j u, news[j]? = some u → w.cell? ⟨b, o + j, none⟩ = some u) (h1 : ∀ u ∈ news, u.oneCell' = true) (h63 : n + m ≤ 1000000) (_hm : 0 < m) (hbase : base ≤ w.heap.size) :
    ∃ v' w', (Builtin.append_ #[22, 22] 22 #[v, .slice (some ⟨b, o, none⟩) m c]).run Tryz.prog w = .ok v' w' ∧ w'.ownsRow base 24 3 v' (n + m) (xs ++ news) ∧ w.grownBy w' v.ownBlock ∧ (∀ g, v'.ownBlock = some g → v.ownBlock = some g ∨ w.heap.size ≤ g) := by
  obtain ⟨i0, hi, hz0, hz1, hz2⟩ := info_parts infoNd
  have hn2 : ∀ j u, news[j]? = some u → w.cell? ((⟨b, o, none⟩ : Addr).add j) = some u := fun j u h => by rw [Addr.add_lit]; exact hnews j u h
  have hmax : n + m ≤ maxLen := by simp only [maxLen]; omega
  obtain ⟨v', w', hr, h2, h3, _⟩ := run_append_own (P := Tryz.prog) w base 22 22 24 i0 _ 3 48 Tryz.underlying22 hi hz0 hz1 hz2 rfl (by decide) v n xs hown ⟨b, o, none⟩ m c news hl hn2 h1 hmax (by omega) hbase
  refine ⟨v', w', hr, h2, h3, fun g hg => ?_⟩
  rcases hown.2 with ⟨rfl, rfl⟩ | ⟨g0, cap, cur, rfl, _, hgg, _, _, hcs, _⟩
  · obtain ⟨v2, w2, hr2, h22, _, _⟩ := run_append_own (P := Tryz.prog) w w.heap.size 22 22 24 i0 _ 3 48 Tryz.underlying22 hi hz0 hz1 hz2 rfl (by decide) (.slice none 0 0) 0 [] (World.ownsRow_nil _ _ _ _) ⟨b, o, none⟩ m c news hl hn2 h1 hmax (by omega) (Nat.le_refl _)
    have he := hr.symm.trans hr2
    simp only [Result.ok.injEq] at he
    rw [he.1] at hg
    exact Or.inr (h22.lt g hg).1
  · by_cases hroom : n + m ≤ cap
    · have hr2 := run_append_room (P := Tryz.prog) w 22 22 24 i0 Tryz.underlying22 hi g0 n cap cur hgg ⟨b, o, none⟩ m c news (by rw [hz1]; exact hl) hn2 h1 hroom (by rw [hz1, hl, hcs]; omega)
      have he := hr.symm.trans hr2
      simp only [Result.ok.injEq] at he
      rw [he.1] at hg
      exact Or.inl hg
    · have holds : ∀ j u, xs[j]? = some u → w.cell? ((⟨g0, 0, none⟩ : Addr).add j) = some u := hown.cells (g := g0) rfl
      have hr2 := run_append_grow (P := Tryz.prog) w 22 22 24 i0 _ Tryz.underlying22 hi hz0 ⟨g0, 0, none⟩ n cap xs (by rw [hz1]; exact hown.1) holds ⟨b, o, none⟩ m c news (by rw [hz1]; exact hl) hn2 (by omega) (by omega) (by rw [hz2]; exact growslice_fits (by omega) (by omega))
      have he := hr.symm.trans hr2
      simp only [Result.ok.injEq] at he
      rw [he.1] at hg
      simp only [Value.ownBlock, Option.some.injEq] at hg
      exact Or.inr (by omega)
theorem append_none (v : Value) (a : Option Addr) (c : Nat) (w : World) {base n : Nat} {xs : List Value} (hown : w.ownsRow base 24 3 v n xs) : (Builtin.append_ #[22, 22] 22 #[v, .slice a 0 c]).run Tryz.prog w = .ok v w := by
  obtain ⟨i0, hi, hz0, hz1, hz2⟩ := info_parts infoNd
  rcases hown.2 with ⟨rfl, rfl⟩ | ⟨g, cap, cur, rfl, _, _, hnc, _⟩
  · cases a <;> simp [Builtin.append_, run_underlying Tryz.underlying22, sizeOf, typeInfo, hi, Builtin.lenOf, Builtin.firstCells, loadCells, loadCellsFrom]
  · cases a <;> simp [Builtin.append_, run_underlying Tryz.underlying22, sizeOf, typeInfo, hi, Builtin.lenOf, Builtin.firstCells, loadCells, loadCellsFrom, hnc, storeCells]

/-- An append whose run is known. -/
theorem wp_append_run {o : Oper} {a : Act} {K : Act → World → Prop} {Q : Exit → Act → World → Prop} {w w' : World} {v x v' : Value} (s y : Operand)
    (ho : o.op = .call { callee := .builtin .append, args := #[s, y], argTypes := #[22, 22] }) (ht : o.type = 22) (hs : a.eval s = v) (hx : a.eval y = x) (hr : (Builtin.append_ #[22, 22] 22 #[v, x]).run Tryz.prog w = .ok v' w')
    (h : K (a.put o.dst v') w') : o.wp Tryz.prog a w K Q := by
  unfold Oper.wp execOp
  simp only [ho, ht, resolve, invoke, builtin, Sem.run_bind, Sem.run_pure, Result.andThen_ok, List.map_toArray, List.map_cons, List.map_nil, hs, hx, hr]
  exact h
theorem wpList_append_run {ops : Array Oper} {rest : List Oper} {o : Oper} {a : Act} {Q : Exit → Act → World → Prop} {w w' : World} {v x v' : Value} (hgd : o.guard = none) (s y : Operand)
    (ho : o.op = .call { callee := .builtin .append, args := #[s, y], argTypes := #[22, 22] }) (ht : o.type = 22) (hs : a.eval s = v) (hx : a.eval y = x) (hr : (Builtin.append_ #[22, 22] 22 #[v, x]).run Tryz.prog w = .ok v' w')
    (h : wpList Tryz.prog ops Q rest (a.put o.dst v') w') : wpList Tryz.prog ops Q (o :: rest) a w :=
  wpList_plain hgd fun _ hK => wp_append_run s y ho ht hs hx hr (hK _ _ h)

/-- New blocks, but for a row's own. -/
def Away (B : Nat) (v : Value) (w : World) (b : Nat) : Prop := B ≤ b ∧ b < w.heap.size ∧ v.ownBlock ≠ some b
/-- Blocks that are new since B. -/
def New (B : Nat) (w : World) (b : Nat) : Prop := B ≤ b ∧ b < w.heap.size

/-- The nodes of a row that is made since block B. -/
def Held (B : Nat) (v : Value) (ds : List Nd) (w : World) : Prop := ∃ xs, w.ownsRow B 24 3 v ds.length xs ∧ IsRow w (Away B v w) xs ds

theorem Held.nil (B : Nat) (w : World) : Held B (.slice none 0 0) [] w := ⟨[], World.ownsRow_nil _ _ _ _, IsRow.nil⟩
theorem Held.form {B : Nat} {v : Value} {ds : List Nd} {w : World} (h : Held B v ds w) : ∃ a c, v = .slice a ds.length c := by
  obtain ⟨xs, h1, _⟩ := h
  exact own_form h1
theorem Held.below {B : Nat} {v : Value} {ds : List Nd} {w w' : World} (h : Held B v ds w) (hb : Below w.heap.size w w') : Held B v ds w' := by
  obtain ⟨xs, h1, h2⟩ := h
  exact ⟨xs, own_below h1 hb, h2.keep fun b hb' => ⟨⟨hb'.1, Nat.lt_of_lt_of_le hb'.2.1 hb.size, hb'.2.2⟩, hb.block b hb'.2.1⟩⟩
/-- The row as a slice. -/
theorem Held.sl {B : Nat} {v : Value} {ds : List Nd} {w : World} (h : Held B v ds w) : IsSl w (New B w) ds v := by
  obtain ⟨xs, h1, h2⟩ := h
  exact IsSl.of_own h1 (h2.keep fun b hb => ⟨⟨hb.1, hb.2.1⟩, rfl⟩) fun g e => ⟨(h1.lt g e).1, (h1.lt g e).2⟩

/-- One node more: the row after 'append(l, d)'. -/
theorem Held.snoc {B : Nat} {v : Value} {ds : List Nd} {w : World} {d : Nd} {c0 c1 c2 : Value} (h : Held B v ds w) (hd : IsNd w (Away B v w) d (.agg #[c0, c1, c2])) (hl : ds.length + 1 ≤ 1000000) (hB : B ≤ w.heap.size) (t : TypeId) :
    ∃ v' w', (Builtin.append_ #[22, 22] 22 #[v, .slice (some ⟨w.heap.size, 0, none⟩) 1 1]).run Tryz.prog (w.alloc (.cells #[c0, c1, c2] t)) = .ok v' w' ∧ Held B v' (ds ++ [d]) w' ∧ Below B w w' := by
  obtain ⟨xs, h1, h2⟩ := h
  have hb := Blk.new w t #[c0, c1, c2]
  obtain ⟨k0, k1, k2⟩ := hd.cells
  obtain ⟨v', w', hr, hown, hg, hblk⟩ := append_run (h1.alloc _) w.heap.size 0 1 1 [c0, c1, c2] rfl (fun j u hu => by rw [Nat.zero_add, hb.cell j]; simpa using hu) (by simp [k0, k1, k2]) hl (by omega) (by simp; omega)
  have hsz := hg.size
  simp at hsz
  have hkeep : ∀ b, Away B v w b → Away B v' w' b ∧ w'.heap[b]? = w.heap[b]? := fun b hb' => by
    refine ⟨⟨hb'.1, by have := hb'.2.1; omega, fun e => ?_⟩, (hg.block b (by have := hb'.2.1; simp; omega) (fun e => hb'.2.2 e.symm)).trans (Below.heap_alloc w _ b hb'.2.1)⟩
    rcases hblk b e with h | h
    · exact hb'.2.2 h
    · have := hb'.2.1
      simp at h
      omega
  refine ⟨v', w', hr, ⟨xs ++ [c0, c1, c2], by rw [List.length_append]; exact hown, (h2.keep hkeep).append (IsRow.one (IsNd.keep hkeep _ _ hd))⟩, ?_⟩
  exact ((Below.refl B w).alloc hB _).grown hg (by simp; omega) (fun r hr => (h1.lt r hr).1)
/-- What a call makes behind a row is away from it. -/
theorem Held.away {B : Nat} {v : Value} {ds : List Nd} {w w' : World} (h : Held B v ds w) (hB : B ≤ w.heap.size) {d : Nd} {u : Value} (hd : IsNd w' (New w.heap.size w') d u) : IsNd w' (Away B v w') d u := by
  obtain ⟨xs, h1, _⟩ := h
  exact IsNd.keep (fun b hb => ⟨⟨by have := hb.1; omega, hb.2, fun e => by have := (h1.lt b e).2; have := hb.1; omega⟩, rfl⟩) _ _ hd

/-- The first n of a row. -/
theorem own_take {w : World} {base N K : Nat} {xs : List Value} {g cap : Nat} (h : w.ownsRow base 24 3 (.slice (some ⟨g, 0, none⟩) (N + K) cap) (N + K) xs) : w.ownsRow base 24 3 (.slice (some ⟨g, 0, none⟩) N cap) N (xs.take (N * 3)) := by
  rcases h.2 with ⟨h', _⟩ | ⟨g', cap', cur, h', hb, hg, hnc, hcm, hcs, htake⟩
  · simp at h'
  simp only [Value.slice.injEq, Option.some.injEq, Addr.mk.injEq, and_true, true_and] at h'
  obtain ⟨rfl, rfl⟩ := h'
  refine ⟨by rw [List.length_take, h.1]; omega, .inr ⟨g, cap, cur, rfl, hb, hg, by omega, hcm, hcs, ?_⟩⟩
  rw [← htake, List.take_take, Nat.min_eq_left (by omega)]
theorem Held.take {B N K : Nat} {ds : List Nd} {w : World} {g cap : Nat} (h : Held B (.slice (some ⟨g, 0, none⟩) (N + K) cap) ds w) (hl : ds.length = N + K) : Held B (.slice (some ⟨g, 0, none⟩) N cap) (ds.take N) w := by
  obtain ⟨xs, h1, h2⟩ := h
  rw [hl] at h1
  refine ⟨xs.take (N * 3), ?_, h2.take N⟩
  rw [List.length_take, hl, Nat.min_eq_left (by omega)]
  exact own_take h1
/-- Some of the row's end, as Kids in a row of their own. -/
theorem Held.kids {B N K : Nat} {ds : List Nd} {w : World} {g cap : Nat} (h : Held B (.slice (some ⟨g, 0, none⟩) (N + K) cap) ds w) (hl : ds.length = N + K) (hK : 0 < K) (hmax : N + K ≤ 1000000) (hB : B ≤ w.heap.size) (c : Nat) :
    ∃ v' w', (Builtin.append_ #[22, 22] 22 #[.slice none 0 0, .slice (some ⟨g, N * 3, none⟩) K c]).run Tryz.prog w = .ok v' w' ∧ IsSl w' (Away B (.slice (some ⟨g, 0, none⟩) (N + K) cap) w') (ds.drop N) v' ∧ Below w.heap.size w w' := by
  obtain ⟨xs, h1, h2⟩ := h
  rw [hl] at h1
  have hdl : (ds.drop N).length = K := by rw [List.length_drop, hl]; omega
  have hd2 := h2.drop N
  have hcell : ∀ j u, (xs.drop (N * 3))[j]? = some u → w.cell? ⟨g, N * 3 + j, none⟩ = some u := fun j u hu => by
    rw [List.getElem?_drop] at hu
    have hj := (List.getElem?_eq_some_iff.1 hu).1
    rw [h1.1] at hj
    rw [h1.cellAt (N * 3 + j) hj, hu]
  obtain ⟨v', w', hr, hown, hg, hblk⟩ := append_run (World.ownsRow_nil w w.heap.size 24 3) g (N * 3) K c (xs.drop (N * 3)) (by rw [hd2.length, hdl]) hcell hd2.oneCell (by omega) hK (Nat.le_refl _)
  have hbel : Below w.heap.size w w' := (Below.refl _ w).grown hg (Nat.le_refl _) (fun r hr => by simp [Value.ownBlock] at hr)
  refine ⟨v', w', hr, ?_, hbel⟩
  rw [List.nil_append, Nat.zero_add, ← hdl] at hown
  refine IsSl.of_own hown (hd2.keep fun b hb => ⟨⟨hb.1, Nat.lt_of_lt_of_le hb.2.1 hbel.size, hb.2.2⟩, hbel.block b hb.2.1⟩) (fun g' e => ⟨?_, (hown.lt g' e).2, fun e' => ?_⟩)
  · have := (hown.lt g' e).1
    omega
  · simp only [Value.ownBlock, Option.some.injEq] at e'
    have h3 := (hown.lt g' e).1
    have h4 := (h1.lt g rfl).2
    omega

/-- The end of a maker: the result's cells lie in block g of W. -/
theorem made {fn : Func} {p : Tmp} {tmps : Array Value} {W : World} {R : Ending → World → Prop} {g : Nat} {cs : Array Value} (hr : fn.results = #[.cell p 24]) (hp : tmps.getD p undef = .pointer (some ⟨g, 0, none⟩)) (hb : Blk W g 24 cs) (hs : cs.size = 3)
    (hd : R (.returned (.agg cs)) W) : bodyPost Tryz.prog fn R .ret { tmps := tmps, defers := [] } W :=
  bodyPost_ret (results_cell_row hr tmps W g 24 cs (0, 0) _ hp hb Tryz.underlying24 rfl (by rw [hs]; kernel_rfl)) rfl hd
end Go.Proofs.YtacgmmpdichlmaaGreat
namespace Go.Proofs.YtacgmmpdichlmaaGreat

def isBr (k : Int) (n : Nat) : Bool := decide (k = 12) && decide (n = 1)
def Nd.br : Nd → Bool
  | .mk k _ ks => isBr k ks.len

mutual
/-- All paths. -/
def pathsN : Nd → List (List Int)
  | .mk _ _ ks => [] :: pathsNs 0 ks
def pathsNs : Nat → Nds → List (List Int)
  | _, .nil => []
  | i, .cons d r => (pathsN d).map ((i : Int) :: ·) ++ pathsNs (i + 1) r
end
mutual
/-- The paths of brackets. -/
def bracksN : Nd → List (List Int)
  | .mk k _ ks => (if isBr k ks.len then [[]] else []) ++ bracksNs 0 ks
def bracksNs : Nat → Nds → List (List Int)
  | _, .nil => []
  | i, .cons d r => (bracksN d).map ((i : Int) :: ·) ++ bracksNs (i + 1) r
end
def kidI (l : List Nd) (i : Int) : Option Nd := if 0 ≤ i then l[i.toNat]? else none
/-- What stands at a path. -/
def atN : List Int → Nd → Option Nd
  | [], d => some d
  | i :: p, d => (kidI d.kids i).bind (atN p)
/-- With something else there. -/
def withN (x : Nd) : List Int → Nd → Option Nd
  | [], _ => some x
  | i :: p, .mk k s ks => ((kidI ks.toL i).bind (withN x p)).map fun z => Nd.of k s (ks.toL.set i.toNat z)
def bareOf (k : Int) (s : ByteArray) : Nds → Nd
  | .cons x .nil => if k = 12 then x else .mk k s (.cons x .nil)
  | ks => .mk k s ks
mutual
/-- Bare. -/
def bareN : Nd → Nd
  | .mk k s ks => bareOf k s (bareNs ks)
def bareNs : Nds → Nds
  | .nil => .nil
  | .cons d r => .cons (bareN d) (bareNs r)
end
theorem bareNs_len : ∀ ks : Nds, (bareNs ks).len = ks.len
  | .nil => rfl
  | .cons d r => by rw [bareNs, Nds.len, Nds.len, bareNs_len r]
theorem bareNs_toL : ∀ ks : Nds, (bareNs ks).toL = ks.toL.map bareN
  | .nil => rfl
  | .cons d r => by rw [bareNs, Nds.toL, Nds.toL, List.map_cons, bareNs_toL r]
/-- The shapes of a node: one bracket, or none. -/
theorem Nds.one_of : ∀ {ks : Nds}, ks.len = 1 → ∃ x, ks = .cons x .nil
  | .cons x .nil, _ => ⟨x, rfl⟩
  | .cons x (.cons y r), h => by simp [Nds.len] at h
  | .nil, h => by simp [Nds.len] at h
theorem isBr_of {k : Int} {ks : Nds} (h : isBr k ks.len = true) : k = 12 ∧ ∃ x, ks = .cons x .nil := by
  simp only [isBr, Bool.and_eq_true, decide_eq_true_eq] at h
  exact ⟨h.1, Nds.one_of h.2⟩
theorem bareOf_no {k : Int} {s : ByteArray} {ks : Nds} (h : isBr k ks.len = false) : bareOf k s ks = .mk k s ks := by
  match ks with
  | .nil => rfl
  | .cons x (.cons y r) => rfl
  | .cons x .nil =>
    rw [bareOf, if_neg]
    rintro rfl
    simp [isBr, Nds.len] at h
theorem bareN_yes (s : ByteArray) (x : Nd) : bareN (.mk 12 s (.cons x .nil)) = bareN x := by rw [bareN, bareNs, bareNs, bareOf, if_pos rfl]
theorem bareN_no {k : Int} {s : ByteArray} {ks : Nds} (h : isBr k ks.len = false) : bareN (.mk k s ks) = .mk k s (bareNs ks) := by
  rw [bareN, bareOf_no (by rwa [bareNs_len])]
theorem bracksN_yes (s : ByteArray) (x : Nd) : bracksN (.mk 12 s (.cons x .nil)) = [] :: (bracksN x).map ((0 : Int) :: ·) := by
  rw [bracksN, bracksNs, bracksNs, if_pos (by rfl)]
  simp
theorem bracksN_no {k : Int} {s : ByteArray} {ks : Nds} (h : isBr k ks.len = false) : bracksN (.mk k s ks) = bracksNs 0 ks := by
  rw [bracksN, h]
  simp

theorem bracksNs_nil : ∀ {ks : Nds} (i : Nat), (∀ d ∈ ks.toL, bracksN d = []) → bracksNs i ks = []
  | .nil, i, _ => by rw [bracksNs]
  | .cons d r, i, h => by
    rw [bracksNs, h d (by simp [Nds.toL]), bracksNs_nil (i + 1) (fun x hx => h x (by simp [Nds.toL, hx]))]
    rfl
theorem bracksNs_nil_iff : ∀ {ks : Nds} {i : Nat}, bracksNs i ks = [] → ∀ d ∈ ks.toL, bracksN d = []
  | .nil, i, _, d, hd => by simp [Nds.toL] at hd
  | .cons x r, i, h, d, hd => by
    rw [bracksNs, List.append_eq_nil_iff, List.map_eq_nil_iff] at h
    rw [Nds.toL] at hd
    rcases List.mem_cons.1 hd with rfl | hd
    · exact h.1
    · exact bracksNs_nil_iff h.2 d hd
theorem bracksNs_len : ∀ (ks : Nds) (i j : Nat), (bracksNs i ks).length = (bracksNs j ks).length
  | .nil, i, j => by rw [bracksNs, bracksNs]
  | .cons x r, i, j => by rw [bracksNs, bracksNs, List.length_append, List.length_append, List.length_map, List.length_map, bracksNs_len r (i + 1) (j + 1)]
theorem bareNs_of : ∀ {ks : Nds}, (∀ d ∈ ks.toL, bareN d = d) → bareNs ks = ks
  | .nil, _ => rfl
  | .cons d r, h => by rw [bareNs, h d (by simp [Nds.toL]), bareNs_of (fun x hx => h x (by simp [Nds.toL, hx]))]

/-- No brackets: bare is as it was. -/
theorem bare_none (d : Nd) : bracksN d = [] → bareN d = d := by
  refine Nd.ind_ (P := fun d => bracksN d = [] → bareN d = d) ?_ d
  intro k s ks ih h
  cases hb : isBr k ks.len with
  | true =>
    obtain ⟨rfl, x, rfl⟩ := isBr_of hb
    rw [bracksN_yes] at h
    simp at h
  | false =>
    rw [bracksN_no hb] at h
    rw [bareN_no hb, bareNs_of (fun x hx => ih x hx (bracksNs_nil_iff h x hx))]
/-- What is bare has no brackets. -/
theorem bracks_bare (d : Nd) : bracksN (bareN d) = [] := by
  refine Nd.ind_ (P := fun d => bracksN (bareN d) = []) ?_ d
  intro k s ks ih
  cases hb : isBr k ks.len with
  | true =>
    obtain ⟨rfl, x, rfl⟩ := isBr_of hb
    rw [bareN_yes]
    exact ih x (by simp [Nds.toL])
  | false =>
    rw [bareN_no hb, bracksN_no (by rwa [bareNs_len])]
    refine bracksNs_nil 0 fun d hd => ?_
    rw [bareNs_toL] at hd
    obtain ⟨x, hx, rfl⟩ := List.mem_map.1 hd
    exact ih x hx
theorem bare_bare (d : Nd) : bareN (bareN d) = bareN d := bare_none _ (bracks_bare d)
theorem count_bareNs : ∀ (ks : Nds) (i : Nat), (∀ d ∈ ks.toL, (bareN d).count + (bracksN d).length = d.count) → (bareNs ks).count + (bracksNs i ks).length = ks.count
  | .nil, i, _ => by rw [bareNs, bracksNs]; rfl
  | .cons d r, i, h => by
    have h1 := h d (by simp [Nds.toL])
    have h2 := count_bareNs r (i + 1) (fun x hx => h x (by simp [Nds.toL, hx]))
    rw [bareNs, bracksNs, Nds.count, Nds.count, List.length_append, List.length_map]
    omega
/-- How many nodes are left. -/
theorem count_bare (d : Nd) : (bareN d).count + (bracksN d).length = d.count := by
  refine Nd.ind_ (P := fun d => (bareN d).count + (bracksN d).length = d.count) ?_ d
  intro k s ks ih
  cases hb : isBr k ks.len with
  | true =>
    obtain ⟨rfl, x, rfl⟩ := isBr_of hb
    have h1 := ih x (by simp [Nds.toL])
    rw [bareN_yes, bracksN_yes, List.length_cons, List.length_map, Nd.count, Nds.count, Nds.count]
    omega
  | false =>
    have h1 := count_bareNs ks 0 ih
    rw [bareN_no hb, bracksN_no hb, Nd.count, Nd.count]
    omega

theorem kidI_ofNat (l : List Nd) (i : Nat) : kidI l (i : Int) = l[i]? := by simp [kidI]
theorem kidI_some {l : List Nd} {i : Int} {x : Nd} (h : kidI l i = some x) : 0 ≤ i ∧ l[i.toNat]? = some x := by
  unfold kidI at h
  split at h
  · exact ⟨by assumption, h⟩
  · cases h

/-- What is told at the Kids from the i-th on. -/
theorem filter_kids (d : Nd) (ih : ∀ x ∈ d.kids, bracksN x = (pathsN x).filter fun p => (atN p x).any Nd.br) : ∀ (ks : Nds) (i : Nat), (∀ j x, ks.toL[j]? = some x → d.kids[i + j]? = some x) →
    (pathsNs i ks).filter (fun p => (atN p d).any Nd.br) = bracksNs i ks
  | .nil, i, _ => by rw [pathsNs, bracksNs]; rfl
  | .cons x r, i, h => by
    have h0 := h 0 x (by simp [Nds.toL])
    rw [Nat.add_zero] at h0
    rw [pathsNs, bracksNs, List.filter_append, filter_kids d ih r (i + 1) (fun j y hy => by
      have := h (j + 1) y (by simpa [Nds.toL] using hy)
      rwa [show i + (j + 1) = i + 1 + j by omega] at this)]
    congr 1
    rw [List.filter_map, ih x (List.mem_of_getElem? h0)]
    congr 1
    refine List.filter_congr fun p _ => ?_
    simp only [Function.comp, atN, kidI_ofNat, h0, Option.bind_some]
/-- The paths of brackets are those paths that lead to one. -/
theorem bracks_filter (d : Nd) : bracksN d = (pathsN d).filter fun p => (atN p d).any Nd.br := by
  refine Nd.ind_ (P := fun d => bracksN d = (pathsN d).filter fun p => (atN p d).any Nd.br) ?_ d
  intro k s ks ih
  have h1 := filter_kids (.mk k s ks) ih ks 0 (fun j x hx => by rw [Nat.zero_add]; exact hx)
  by_cases hb : isBr k ks.len = true
  · rw [pathsN, List.filter_cons_of_pos (by exact hb), h1, bracksN, if_pos hb]; rfl
  · rw [pathsN, List.filter_cons_of_neg (by exact hb), h1, bracksN, if_neg hb]; rfl

theorem mem_pathsNs : ∀ {ks : Nds} {i : Nat} {p : List Int}, p ∈ pathsNs i ks ↔ ∃ (j : Nat) (x : Nd) (q : List Int), ks.toL[j]? = some x ∧ p = ((i + j : Nat) : Int) :: q ∧ q ∈ pathsN x
  | .nil, i, p => by simp [pathsNs, Nds.toL]
  | .cons d r, i, p => by
    rw [pathsNs, List.mem_append, List.mem_map, mem_pathsNs (ks := r) (i := i + 1)]
    constructor
    · rintro (⟨q, hq, rfl⟩ | ⟨j, x, q, hx, rfl, hq⟩)
      · exact ⟨0, d, q, by simp [Nds.toL], rfl, hq⟩
      · exact ⟨j + 1, x, q, by simpa [Nds.toL] using hx, by rw [show i + (j + 1) = i + 1 + j by omega], hq⟩
    · rintro ⟨j, x, q, hx, rfl, hq⟩
      cases j with
      | zero =>
        obtain rfl : d = x := by simpa [Nds.toL] using hx
        exact Or.inl ⟨q, hq, rfl⟩
      | succ j => exact Or.inr ⟨j, x, q, by simpa [Nds.toL] using hx, by rw [show i + 1 + j = i + (j + 1) by omega], hq⟩
/-- A path leads somewhere. -/
theorem mem_paths (d : Nd) : ∀ p, p ∈ pathsN d ↔ (atN p d).isSome = true := by
  refine Nd.ind_ (P := fun d => ∀ p, p ∈ pathsN d ↔ (atN p d).isSome = true) ?_ d
  intro k s ks ih p
  rw [pathsN, List.mem_cons, mem_pathsNs]
  cases p with
  | nil => simp [atN]
  | cons i p =>
    simp only [atN, Nd.kids, reduceCtorEq, false_or, Nat.zero_add]
    constructor
    · rintro ⟨j, x, q, hx, he, hq⟩
      simp only [List.cons.injEq] at he
      obtain ⟨rfl, rfl⟩ := he
      rw [kidI_ofNat, hx]
      exact (ih x (List.mem_of_getElem? hx) p).1 hq
    · intro h
      cases hk : kidI ks.toL i with
      | none => rw [hk] at h; simp at h
      | some x =>
        obtain ⟨h0, hx⟩ := kidI_some hk
        rw [hk] at h
        refine ⟨i.toNat, x, p, hx, by rw [Int.toNat_of_nonneg h0], (ih x (List.mem_of_getElem? hx) p).2 (by simpa using h)⟩
/-- A bracket is told where there is one. -/
theorem mem_bracks (d : Nd) (p : List Int) : p ∈ bracksN d ↔ (atN p d).any Nd.br = true := by
  rw [bracks_filter, List.mem_filter, mem_paths]
  constructor
  · exact fun h => h.2
  · intro h
    refine ⟨?_, h⟩
    cases hx : atN p d with
    | none => rw [hx] at h; simp at h
    | some x => rfl

theorem bareN_of (k : Int) (s : ByteArray) (l : List Nd) : bareN (Nd.of k s l) = bareOf k s (Nds.ofL (l.map bareN)) := by
  rw [Nd.of, bareN, ← Nds.ofL_toL (bareNs (Nds.ofL l)), bareNs_toL, Nds.toL_ofL]
theorem bracksNs_sum : ∀ (ks : Nds) (i : Nat), (bracksNs i ks).length = (ks.toL.map fun x => (bracksN x).length).sum
  | .nil, i => by rw [bracksNs]; rfl
  | .cons d r, i => by rw [bracksNs, List.length_append, List.length_map, bracksNs_sum r (i + 1), Nds.toL, List.map_cons, List.sum_cons]
theorem bracksN_of (k : Int) (s : ByteArray) (l : List Nd) : (bracksN (Nd.of k s l)).length = (if isBr k l.length then 1 else 0) + (l.map fun x => (bracksN x).length).sum := by
  rw [Nd.of, bracksN, List.length_append, bracksNs_sum, Nds.toL_ofL, Nds.len_ofL]
  congr 1
  split <;> rfl
theorem sum_set (f : Nd → Nat) (a : Nd) : ∀ (l : List Nd) (i : Nat) (x : Nd), l[i]? = some x → ((l.set i a).map f).sum + f x = (l.map f).sum + f a
  | [], i, x, h => by simp at h
  | y :: l, 0, x, h => by
    obtain rfl : y = x := by simpa using h
    simp only [List.set_cons_zero, List.map_cons, List.sum_cons]
    omega
  | y :: l, i + 1, x, h => by
    have ih := sum_set f a l i x (by simpa using h)
    simp only [List.set_cons_succ, List.map_cons, List.sum_cons]
    omega
theorem map_set_same {f : Nd → Nd} {a x : Nd} (he : f a = f x) {l : List Nd} {i : Nat} (h : l[i]? = some x) : (l.set i a).map f = l.map f := by
  refine List.ext_getElem? fun j => ?_
  rw [List.map_set, List.getElem?_set]
  split
  · next e =>
    subst e
    have hl : i < (l.map f).length := by rw [List.length_map]; exact (List.getElem?_eq_some_iff.1 h).1
    rw [if_pos hl, List.getElem?_map, h, he]
    rfl
  · rfl
/-- A bracket that is left out: the rest is the same, and has one bracket less. -/
theorem without_law (s : ByteArray) (y : Nd) : ∀ (p : List Int) (d : Nd), atN p d = some (.mk 12 s (.cons y .nil)) → ∃ m, withN y p d = some m ∧ bareN m = bareN d ∧ (bracksN m).length + 1 = (bracksN d).length
  | [], d, h => by
    rw [atN, Option.some.injEq] at h
    subst h
    refine ⟨y, rfl, by rw [bareN_yes], by rw [bracksN_yes]; simp⟩
  | i :: p, .mk k t ks, h => by
    rw [atN] at h
    cases hk : kidI ks.toL i with
    | none => rw [show kidI (Nd.kids (.mk k t ks)) i = none from hk] at h; cases h
    | some z =>
      rw [show kidI (Nd.kids (.mk k t ks)) i = some z from hk, Option.bind_some] at h
      obtain ⟨m, h1, h2, h3⟩ := without_law s y p z h
      obtain ⟨hi, hz⟩ := kidI_some hk
      refine ⟨Nd.of k t (ks.toL.set i.toNat m), by rw [withN, hk, Option.bind_some, h1]; rfl, ?_, ?_⟩
      · rw [bareN_of, map_set_same h2 hz, ← bareN_of, Nd.of_kids]
      · have := sum_set (fun x => (bracksN x).length) m ks.toL i.toNat z hz
        rw [bracksN_of, ← Nd.of_kids k t ks, bracksN_of, List.length_set]
        omega
/-- So many brackets around a node. -/
def wrapN (d : Nd) : Nat → Nd
  | 0 => d
  | n + 1 => .mk 12 ByteArray.empty (.cons (wrapN d n) .nil)
theorem bare_wrap (d : Nd) : ∀ n, bareN (wrapN d n) = bareN d
  | 0 => rfl
  | n + 1 => by rw [wrapN, bareN_yes, bare_wrap d n]
theorem bracks_wrap (d : Nd) : ∀ n, (bracksN (wrapN d n)).length = (bracksN d).length + n
  | 0 => rfl
  | n + 1 => by rw [wrapN, bracksN_yes, List.length_cons, List.length_map, bracks_wrap d n]; omega
/-- As a text is read: how far of a list one gets in another one. -/
def greedy : List (List Int) → List (List Int) → Nat
  | _, [] => 0
  | [], _ :: _ => 0
  | x :: a, y :: b => if x = y then greedy a b + 1 else greedy a (y :: b)
theorem greedy_sub {a b : List (List Int)} (h : List.Sublist b a) : greedy a b = b.length := by
  induction a generalizing b with
  | nil => cases h; rfl
  | cons x a ih =>
    cases b with
    | nil => rfl
    | cons y b =>
      rw [greedy]
      split
      · next e =>
        subst e
        rw [ih (List.cons_sublist_cons.1 h)]; rfl
      · next e =>
        cases h with
        | cons _ h => exact ih h
        | cons_cons _ h => exact absurd rfl e
theorem bracks_order (d : Nd) : greedy (pathsN d) (bracksN d) = (bracksN d).length := greedy_sub (by rw [bracks_filter]; exact List.filter_sublist)
end Go.Proofs.YtacgmmpdichlmaaGreat
namespace Go.Proofs.YtacgmmpdichlmaaGreat
open Go.RowKit

theorem app_run {P : Program} {tS ty tE : TypeId} {z : Value} {size bytes : Nat} (ht : P.underlying tS = some (.slice tE)) (hinfo : (P.info? tE).map (fun i => (i.zero, i.size, i.bytes)) = some (some z, size, bytes)) (hzs : z.cells.size = size) (hsz : 0 < size) (hbt : bytes ≤ 1000)
    {w : World} {base n : Nat} {v : Value} {xs : List Value} (hown : w.ownsRow base tE size v n xs) (b o m c : Nat) (news : List Value) (hl : news.length = m * size)
    (hnews : ∀ j u, news[j]? = some u → w.cell? ⟨b, o + j, none⟩ = some u) (h1 : ∀ u ∈ news, u.oneCell' = true) (h63 : n + m ≤ 1000000) (_hm : 0 < m) (hbase : base ≤ w.heap.size) :
    ∃ v' w', (Builtin.append_ #[tS, tS] ty #[v, .slice (some ⟨b, o, none⟩) m c]).run P w = .ok v' w' ∧ w'.ownsRow base tE size v' (n + m) (xs ++ news) ∧ w.grownBy w' v.ownBlock ∧ (∀ g, v'.ownBlock = some g → v.ownBlock = some g ∨ w.heap.size ≤ g) := by
  obtain ⟨i0, hi, hz0, hz1, hz2⟩ := info_parts hinfo
  have hn2 : ∀ j u, news[j]? = some u → w.cell? ((⟨b, o, none⟩ : Addr).add j) = some u := fun j u h => by rw [Addr.add_lit]; exact hnews j u h
  have hmax : n + m ≤ maxLen := by simp only [maxLen]; omega
  have hby : (n + m) * bytes ≤ 140737488355328 := by
    have : (n + m) * bytes ≤ 1000000 * 1000 := Nat.mul_le_mul h63 hbt
    omega
  obtain ⟨v', w', hr, h2, h3, _⟩ := run_append_own (P := P) w base tS ty tE i0 z size bytes ht hi hz0 hz1 hz2 hzs hsz v n xs hown ⟨b, o, none⟩ m c news hl hn2 h1 hmax hby hbase
  refine ⟨v', w', hr, h2, h3, fun g hg => ?_⟩
  rcases hown.2 with ⟨rfl, rfl⟩ | ⟨g0, cap, cur, rfl, _, hgg, _, _, hcs, _⟩
  · obtain ⟨v2, w2, hr2, h22, _, _⟩ := run_append_own (P := P) w w.heap.size tS ty tE i0 z size bytes ht hi hz0 hz1 hz2 hzs hsz (.slice none 0 0) 0 [] (World.ownsRow_nil _ _ _ _) ⟨b, o, none⟩ m c news hl hn2 h1 hmax hby (Nat.le_refl _)
    have he := hr.symm.trans hr2
    simp only [Result.ok.injEq] at he
    rw [he.1] at hg
    exact Or.inr (h22.lt g hg).1
  · by_cases hroom : n + m ≤ cap
    · have hr2 := run_append_room (P := P) w tS ty tE i0 ht hi g0 n cap cur hgg ⟨b, o, none⟩ m c news (by rw [hz1]; exact hl) hn2 h1 hroom (by rw [hz1, hl, hcs, ← Nat.add_mul]; exact Nat.mul_le_mul_right _ hroom)
      have he := hr.symm.trans hr2
      simp only [Result.ok.injEq] at he
      rw [he.1] at hg
      exact Or.inl hg
    · have holds : ∀ j u, xs[j]? = some u → w.cell? ((⟨g0, 0, none⟩ : Addr).add j) = some u := hown.cells (g := g0) rfl
      have hr2 := run_append_grow (P := P) w tS ty tE i0 z ht hi hz0 ⟨g0, 0, none⟩ n cap xs (by rw [hz1]; exact hown.1) holds ⟨b, o, none⟩ m c news (by rw [hz1]; exact hl) hn2 (by omega) (by omega) (by rw [hz2]; exact growslice_fits (by omega) hby)
      have he := hr.symm.trans hr2
      simp only [Result.ok.injEq] at he
      rw [he.1] at hg
      simp only [Value.ownBlock, Option.some.injEq] at hg
      exact Or.inr (by omega)
/-- Nothing is appended. -/
theorem app_none {P : Program} {tS ty tE : TypeId} {z : Value} {size bytes : Nat} (ht : P.underlying tS = some (.slice tE)) (hinfo : (P.info? tE).map (fun i => (i.zero, i.size, i.bytes)) = some (some z, size, bytes)) (v : Value) (a : Option Addr) (c : Nat) (w : World) {base n : Nat} {xs : List Value} (hown : w.ownsRow base tE size v n xs) :
    (Builtin.append_ #[tS, tS] ty #[v, .slice a 0 c]).run P w = .ok v w := by
  obtain ⟨i0, hi, hz0, hz1, hz2⟩ := info_parts hinfo
  rcases hown.2 with ⟨rfl, rfl⟩ | ⟨g, cap, cur, rfl, _, _, hnc, _⟩
  · cases a <;> simp [Builtin.append_, run_underlying ht, sizeOf, typeInfo, hi, Builtin.lenOf, Builtin.firstCells, loadCells, loadCellsFrom]
  · cases a <;> simp [Builtin.append_, run_underlying ht, sizeOf, typeInfo, hi, Builtin.lenOf, Builtin.firstCells, loadCells, loadCellsFrom, hnc, storeCells]

/-- An append whose run is known, as a step. -/
theorem wp_app {P : Program} {tS : TypeId} {o : Oper} {a : Act} {K : Act → World → Prop} {Q : Exit → Act → World → Prop} {w w' : World} {v x v' : Value} (s y : Operand)
    (ho : o.op = .call { callee := .builtin .append, args := #[s, y], argTypes := #[tS, tS] }) (hs : a.eval s = v) (hx : a.eval y = x) (hr : (Builtin.append_ #[tS, tS] o.type #[v, x]).run P w = .ok v' w')
    (h : K (a.put o.dst v') w') : o.wp P a w K Q := by
  unfold Oper.wp execOp
  simp only [ho, resolve, invoke, builtin, Sem.run_bind, Sem.run_pure, Result.andThen_ok, List.map_toArray, List.map_cons, List.map_nil, hs, hx, hr]
  exact h
theorem wpList_app {P : Program} {tS ty : TypeId} {ops : Array Oper} {rest : List Oper} {o : Oper} {a : Act} {Q : Exit → Act → World → Prop} {w w' : World} {v x v' : Value} (hgd : o.guard = none) (s y : Operand)
    (ho : o.op = .call { callee := .builtin .append, args := #[s, y], argTypes := #[tS, tS] }) (ht : o.type = ty) (hs : a.eval s = v) (hx : a.eval y = x) (hr : (Builtin.append_ #[tS, tS] ty #[v, x]).run P w = .ok v' w')
    (h : wpList P ops Q rest (a.put o.dst v') w') : wpList P ops Q (o :: rest) a w :=
  wpList_plain hgd fun _ hK => wp_app s y ho hs hx (ht ▸ hr) (hK _ _ h)
end Go.Proofs.YtacgmmpdichlmaaGreat
namespace Go.Proofs.YtacgmmpdichlmaaGreat
open Go.ChangeShapes Go.WideShapes Go.RowKit Go.Deep

/-- The slice of n places from a on reads as the numbers c, each a byte, in blocks of F. -/
def IsBytes (w : World) (F : Nat → Prop) (a : Option Addr) (n : Nat) (c : List Int) : Prop :=
  n = c.length ∧ n ≤ maxLen ∧ (∀ x ∈ c, 0 ≤ x ∧ x ≤ 255) ∧
    (c ≠ [] → ∃ b o, a = some ⟨b, o, none⟩ ∧ F b ∧ ∀ (k : Nat) (x : Int), c[k]? = some x → w.cell? ⟨b, o + k, none⟩ = some (.int .u8 x))
theorem IsBytes.get {w : World} {F : Nat → Prop} {a : Option Addr} {n : Nat} {c : List Int} (h : IsBytes w F a n c) {k : Nat} (hk : k < c.length) :
    ∃ b o, a = some ⟨b, o, none⟩ ∧ F b ∧ w.cell? ⟨b, o + k, none⟩ = some (.int .u8 c[k]) ∧ 0 ≤ c[k] ∧ c[k] ≤ 255 := by
  obtain ⟨_, _, hf, hc⟩ := h
  have hne : c ≠ [] := by intro e; subst e; simp at hk
  obtain ⟨b', o', ha, hF, hcell⟩ := hc hne
  exact ⟨b', o', ha, hF, hcell k _ (by simp [hk]), hf _ (by simp)⟩


theorem laid : laidOutB Tryz.prog = true := by kernel_rfl
theorem own_ : ownKnob Tryz.prog.godebug = none := by kernel_rfl
theorem cellsU8 : Tryz.prog.cellsOf 5 = 1 := by kernel_rfl

section
variable {H : Type} {enc : TypeId × Value → H}

theorem carry_all {W W' : World} (hb : Below W.heap.size W W') {sp : Nat → Bool} : ∀ {ts : List TypeId} {vs : List Value} {ds : List (DataW H)} {ps : List MemPlace},
    (∀ t ∈ ts, Tryz.prog.readableRec t = true ∧ t < Tryz.prog.types.size) → DataW.TrodAll enc Tryz.prog W 0 (fun _ => true) true ts vs ds ps → (∀ x ∈ ps, x.block < W.heap.size) → (∀ x ∈ ps, sp x.block = true) →
    DataW.TrodAll enc Tryz.prog W' 0 sp true ts vs ds ps
  | [], _, _, _, _, h, _, _ => by
    obtain ⟨rfl, rfl, rfl⟩ := trodAll_nil h
    exact trodAll_mk0
  | t :: ts, _, _, _, hts, h, hlt, hsp => by
    obtain ⟨v0, vs0, d0, ds0, p0, q0, rfl, rfl, rfl, h0, r0⟩ := trodAll_cons h
    refine trodAll_cons_mk ?_ (carry_all hb (fun t ht => hts t (List.mem_cons_of_mem _ ht)) r0 (fun x hx => hlt x (List.mem_append_right _ hx)) (fun x hx => hsp x (List.mem_append_right _ hx)))
    have := hts t (List.mem_cons_self ..)
    exact WideElems.Trod_stays laid this.1 this.2 h0 (fun x hx => hb.same (hlt x (List.mem_append_left _ hx))) (fun x hx => hsp x (List.mem_append_left _ hx))

set_option maxRecDepth 100000 in
theorem true_post {f : Func} {s : ChangeSpec} {W W' : World} {args : Array Value} {ds gs : List (DataW H)} {before : List MemPlace}
    (hW : DataW.Whole enc Tryz.prog f.params.toList s.vars false W args.toList ds gs before)
    (hvars : s.vars = []) (hfn : s.fn H (ds ++ gs) = { results := [.lit (.bool true)], args := ds }) (hr : f.resultTypes = #[4])
    (hts : ∀ t ∈ f.params.toList, Tryz.prog.readableRec t = true ∧ t < Tryz.prog.types.size) (hb : Below W.heap.size W W') :
    s.post enc Tryz.prog f false true false false W args (.bool true) W' := by
  have hW' := hW
  obtain ⟨p, q, hA0, hV, rfl, hfz, hnd⟩ := hW
  have hV0 := hV
  rw [hvars] at hV
  obtain ⟨rfl, rfl⟩ := trodVars_none hV
  have hlt : ∀ x ∈ p, x.block < W.heap.size := fun x hx => by simpa using hW'.lt x (by simpa using hx)
  refine post_of_below (pa := p) (pv := []) hW' ?_ ?_ ?_ (by simp) hb ?_
  · intro b sp hd
    rw [hfn, hr]
    exact trodAll_mk1 (shut_bool Tryz.underlying4 true)
  · intro sp hs
    rw [hfn]
    exact carry_all hb hts hA0 hlt (fun x hx => hs x (by simpa using hx))
  · intro sp hs
    rw [hfn, hvars]
    rfl
  · exact ok_one hr rfl (okWide_bool_mk Tryz.underlying4 true)

set_option maxRecDepth 100000 in
/-- The bytes of a slice that came in. -/
theorem open_bytes {W : World} {base : Nat} {v : Value} {d : DataW H} {ps : List MemPlace} (hval : Value.okWide Tryz.prog W .any base 26 v) (h : DataW.Trod enc Tryz.prog W 0 (fun _ => true) true 26 v d ps) :
    ∃ a m cap c, v = .slice a m cap ∧ m ≤ cap ∧ IsBytes W (· < W.heap.size) a m c := by
  obtain ⟨a, m, cap, rfl⟩ := okWide_slice Tryz.underlying26 hval
  obtain ⟨fuel, hf⟩ := h
  rcases open_ints Tryz.underlying26 Tryz.underlying5 cellsU8 hf with ⟨hcs, hx⟩ | ⟨a', m', cap', zs, hcs, _, hl, hm, hz, hx, hcell, hwz⟩
  · simp [Value.cells] at hcs
    obtain ⟨rfl, rfl, rfl⟩ := hcs
    exact ⟨none, 0, 0, [], rfl, Nat.le_refl _, rfl, Nat.zero_le _, by simp, by simp⟩
  · simp [Value.cells] at hcs
    obtain ⟨rfl, rfl, rfl⟩ := hcs
    simp only [if_true] at hz
    refine ⟨some a', m, cap, zs.take m, rfl, by omega, by simp; omega, by omega, ?_, ?_⟩
    · intro x hx
      have := hwz x (List.mem_of_mem_take hx)
      simpa [Lit.wf, IntKind.min, IntKind.max, IntKind.signed, IntKind.bits] using this
    · intro hne
      have hm0 : 0 < m := by
        rcases Nat.eq_zero_or_pos m with h0 | h0
        · subst h0; simp at hne
        · exact h0
      have hc0 := hcell 0 (by omega)
      obtain ⟨ab, ao, spot⟩ := a'
      have hspot : spot = none := by simpa [Addr.add] using World.cell?_spot hc0
      subst hspot
      refine ⟨ab, ao, rfl, ?_, ?_⟩
      · rcases Nat.lt_or_ge ab W.heap.size with h1 | h1
        · exact h1
        · rw [Addr.add_lit] at hc0
          simp [World.cell?, Array.getElem?_eq_none h1] at hc0
      · intro k x hk
        obtain ⟨hk1, hk2⟩ := List.getElem?_eq_some_iff.1 hk
        have hkm : k < m := by simp at hk1; omega
        have := hcell k (by omega)
        rw [Addr.add_lit] at this
        rw [this]
        congr 2
        rw [List.getElem_take] at hk2
        rw [← hk2]
        simp [List.getD, List.getElem?_eq_getElem (show k < zs.length by omega)]
end
end Go.Proofs.YtacgmmpdichlmaaGreat
