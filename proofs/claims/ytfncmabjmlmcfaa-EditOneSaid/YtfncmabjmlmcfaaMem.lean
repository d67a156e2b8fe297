/-
  Slices of edits as they lie in memory; what the calls of this seat compute, as plain functions on texts and lists: which edits may be made, and the one edit between two texts.
  No condition.
-/
import Derived.Test.YtfncmabjmlmcfaaBase
import Derived.Deep.DeepCutAuto
import Derived.Deep.CutBlock
namespace Go.Proofs.Ytfncmabjmlmcfaa
open Go.RowKit

/-- An edit. -/
structure Ed where
  lo : Int
  hi : Int
  text : ByteArray

/-- The edit's three cells lie at p. -/
def Ed.at_ (w : World) (b o : Nat) (e : Ed) : Prop :=
  w.cell? ⟨b, o, none⟩ = some (.int .i64 e.lo) ∧ w.cell? ⟨b, o + 1, none⟩ = some (.int .i64 e.hi) ∧ w.cell? ⟨b, o + 2, none⟩ = some (.string e.text)

/-- The numbers fit, and the text is no longer than a string may be. -/
def Ed.fits (e : Ed) : Prop := -9223372036854775808 ≤ e.lo ∧ e.lo ≤ 9223372036854775807 ∧ -9223372036854775808 ≤ e.hi ∧ e.hi ≤ 9223372036854775807 ∧ e.text.size ≤ maxLen

/-- The slice of n places from a on reads as the edits l, in blocks of F. -/
def IsEds (w : World) (F : Nat → Prop) (a : Option Addr) (n : Nat) (l : List Ed) : Prop :=
  n = l.length ∧ n ≤ maxLen ∧ (∀ e ∈ l, e.fits) ∧
    (l ≠ [] → ∃ b o, a = some ⟨b, o, none⟩ ∧ F b ∧ ∀ (k : Nat) (e : Ed), l[k]? = some e → e.at_ w b (o + k * 3))

theorem IsEds.get {w : World} {F : Nat → Prop} {a : Option Addr} {n : Nat} {l : List Ed} (h : IsEds w F a n l) {k : Nat} (hk : k < l.length) :
    ∃ b o, a = some ⟨b, o, none⟩ ∧ F b ∧ (l[k]).at_ w b (o + k * 3) ∧ (l[k]).fits := by
  obtain ⟨_, _, hf, hc⟩ := h
  have hne : l ≠ [] := by intro e; subst e; simp at hk
  obtain ⟨b', o', ha, hF, hcell⟩ := hc hne
  exact ⟨b', o', ha, hF, hcell k _ (by simp [hk]), hf _ (by simp)⟩
theorem IsEds.keep {w w' : World} {F F' : Nat → Prop} {a : Option Addr} {n : Nat} {l : List Ed} (h : IsEds w F a n l) (hF : ∀ b, F b → F' b ∧ w'.heap[b]? = w.heap[b]?) : IsEds w' F' a n l := by
  obtain ⟨h0, h1, hf, hc⟩ := h
  refine ⟨h0, h1, hf, fun hne => ?_⟩
  obtain ⟨b, o, ha, hb, hcell⟩ := hc hne
  obtain ⟨hb', hh⟩ := hF b hb
  refine ⟨b, o, ha, hb', fun k e hk => ?_⟩
  obtain ⟨c0, c1, c2⟩ := hcell k e hk
  have kc : ∀ i, w'.cell? ⟨b, i, none⟩ = w.cell? ⟨b, i, none⟩ := fun i => World.cell?_of_block (w := w) hh
  exact ⟨(kc _).trans c0, (kc _).trans c1, (kc _).trans c2⟩
theorem IsEds.below {w w' : World} {B : Nat} {a : Option Addr} {n : Nat} {l : List Ed} (h : IsEds w (· < B) a n l) (hb : Below B w w') : IsEds w' (· < B) a n l :=
  h.keep fun b hlt => ⟨hlt, hb.block b hlt⟩

/-- The test of one edit behind another one. -/
def okOne (n la lb : Int) (e : Ed) : Bool := !(decide (e.lo < 0) || decide (e.hi < e.lo) || decide (n < e.hi) || decide (e.lo < lb) || decide (e.lo ≤ la))
def okGo (n : Int) : Int → Int → List Ed → Bool
  | _, _, [] => true
  | la, lb, e :: r => okOne n la lb e && okGo n e.lo e.hi r
def RightPost (w : World) (b : Bool) (e : Ending) (w' : World) : Prop := e = .returned (.bool b) ∧ Below w.heap.size w w'
theorem okGo_bad {n la lb : Int} {l : List Ed} {k : Nat} (hk : k < l.length) (h : okOne n la lb l[k] = false) : okGo n la lb (l.drop k) = false := by
  rw [List.drop_eq_getElem_cons hk]; simp [okGo, h]
theorem okGo_ok {n la lb : Int} {l : List Ed} {k : Nat} (hk : k < l.length) (h : okOne n la lb l[k] = true) : okGo n la lb (l.drop k) = okGo n l[k].lo l[k].hi (l.drop (k + 1)) := by
  rw [List.drop_eq_getElem_cons hk]; simp [okGo, h]

def pre : List UInt8 → List UInt8 → Nat
  | x :: a, y :: b => if x = y then pre a b + 1 else 0
  | _, _ => 0

theorem pre_le_left : ∀ (a b : List UInt8), pre a b ≤ a.length
  | [], _ => by simp [pre]
  | x :: a, [] => by simp [pre]
  | x :: a, y :: b => by
    simp only [pre]
    split
    · have := pre_le_left a b; simp; omega
    · simp
theorem pre_comm : ∀ (a b : List UInt8), pre a b = pre b a
  | [], [] => rfl
  | [], y :: b => by simp [pre]
  | x :: a, [] => by simp [pre]
  | x :: a, y :: b => by
    simp only [pre]
    by_cases h : x = y
    · subst h; simp [pre_comm a b]
    · rw [if_neg h, if_neg (fun e => h e.symm)]
theorem pre_le_right (a b : List UInt8) : pre a b ≤ b.length := by rw [pre_comm]; exact pre_le_left b a
theorem pre_go {a b : List UInt8} {k : Nat} (ha : k < a.length) (hb : k < b.length) (h : a[k] = b[k]) : pre (a.drop k) (b.drop k) = pre (a.drop (k + 1)) (b.drop (k + 1)) + 1 := by
  rw [List.drop_eq_getElem_cons ha, List.drop_eq_getElem_cons hb]; simp [pre, h]
theorem pre_ne {a b : List UInt8} {k : Nat} (ha : k < a.length) (hb : k < b.length) (h : a[k] ≠ b[k]) : pre (a.drop k) (b.drop k) = 0 := by
  rw [List.drop_eq_getElem_cons ha, List.drop_eq_getElem_cons hb]; simp [pre, h]
theorem pre_end {a b : List UInt8} {k : Nat} (h : a.length ≤ k ∨ b.length ≤ k) : pre (a.drop k) (b.drop k) = 0 := by
  rcases h with h | h
  · rw [List.drop_eq_nil_of_le h]; simp [pre]
  · rw [List.drop_eq_nil_of_le h]; cases a.drop k <;> simp [pre]

/-- How far two texts are the same from the front. -/
def preB (a b : ByteArray) (k : Nat) : Nat := pre (a.data.toList.drop k) (b.data.toList.drop k)
theorem preB_go {a b : ByteArray} {k : Nat} (ha : k < a.size) (hb : k < b.size) (h : ((a[k].toNat : Int) == (b[k].toNat : Int)) = true) : preB a b k = preB a b (k + 1) + 1 := by
  refine pre_go (by simpa using ha) (by simpa using hb) ?_
  have := beq_iff_eq.1 h
  have h2 : a[k] = b[k] := UInt8.toNat_inj.1 (by omega)
  simpa [ByteArray.getElem_eq_getElem_data] using h2
theorem preB_ne {a b : ByteArray} {k : Nat} (ha : k < a.size) (hb : k < b.size) (h : ((a[k].toNat : Int) == (b[k].toNat : Int)) = false) : preB a b k = 0 := by
  refine pre_ne (by simpa using ha) (by simpa using hb) ?_
  have := beq_eq_false_iff_ne.1 h
  intro e
  refine this ?_
  have e' : a[k] = b[k] := by simpa [ByteArray.getElem_eq_getElem_data] using e
  rw [e']
theorem preB_end {a b : ByteArray} {k : Nat} (h : a.size ≤ k ∨ b.size ≤ k) : preB a b k = 0 := pre_end (by simpa using h)

/-- How far two texts are the same from the end. -/
def sufB (a b : ByteArray) (k : Nat) : Nat := pre (a.data.toList.reverse.drop k) (b.data.toList.reverse.drop k)
theorem sufB_end {a b : ByteArray} {k : Nat} (h : a.size ≤ k ∨ b.size ≤ k) : sufB a b k = 0 := pre_end (by simpa using h)
theorem sufB_go {a b : ByteArray} {k : Nat} (ha : k < a.size) (hb : k < b.size) (h : ((a[a.size - 1 - k].toNat : Int) == (b[b.size - 1 - k].toNat : Int)) = true) : sufB a b k = sufB a b (k + 1) + 1 := by
  refine pre_go (by simpa using ha) (by simpa using hb) ?_
  have := beq_iff_eq.1 h
  have h2 : a[a.size - 1 - k] = b[b.size - 1 - k] := UInt8.toNat_inj.1 (by omega)
  simpa [ByteArray.getElem_eq_getElem_data, List.getElem_reverse] using h2
theorem sufB_ne {a b : ByteArray} {k : Nat} (ha : k < a.size) (hb : k < b.size) (h : ((a[a.size - 1 - k].toNat : Int) == (b[b.size - 1 - k].toNat : Int)) = false) : sufB a b k = 0 := by
  refine pre_ne (by simpa using ha) (by simpa using hb) ?_
  have := beq_eq_false_iff_ne.1 h
  intro e
  refine this ?_
  have e' : a[a.size - 1 - k] = b[b.size - 1 - k] := by simpa [ByteArray.getElem_eq_getElem_data, List.getElem_reverse] using e
  rw [e']

/-- The call hands back the edits l, in new memory; what was there is as it was. -/
def EdsPost (w : World) (l : List Ed) (e : Ending) (w' : World) : Prop :=
  ∃ a n c, e = .returned (.slice a n c) ∧ IsEds w' (fun b => w.heap.size ≤ b ∧ b < w'.heap.size) a n l ∧ Below w.heap.size w w'

def diffL (a b : ByteArray) : List Ed :=
  if (a.toList == b.toList) = true then [] else
    [⟨(preB a b 0 : Nat), (a.size : Int) - (sufB (a.extract (preB a b 0) a.size) (b.extract (preB a b 0) b.size) 0 : Nat),
      b.extract (preB a b 0) (b.size - sufB (a.extract (preB a b 0) a.size) (b.extract (preB a b 0) b.size) 0)⟩]


theorem extract_get {a : ByteArray} {p i : Nat} (h : i < (a.extract p a.size).size) : (a.extract p a.size)[i] = a[p + i]'(by simp at h; omega) := by
  simp [ByteArray.getElem_extract]
theorem sufX_go {a b : ByteArray} {p k : Nat} (ha : k < a.size - p) (hb : k < b.size - p) (h : ((a[a.size - 1 - k].toNat : Int) == (b[b.size - 1 - k].toNat : Int)) = true) :
    sufB (a.extract p a.size) (b.extract p b.size) k = sufB (a.extract p a.size) (b.extract p b.size) (k + 1) + 1 := by
  refine sufB_go (by simp; omega) (by simp; omega) ?_
  rw [extract_get, extract_get]
  simpa [show p + (a.size - p - 1 - k) = a.size - 1 - k by omega, show p + (b.size - p - 1 - k) = b.size - 1 - k by omega] using h
theorem sufX_ne {a b : ByteArray} {p k : Nat} (ha : k < a.size - p) (hb : k < b.size - p) (h : ((a[a.size - 1 - k].toNat : Int) == (b[b.size - 1 - k].toNat : Int)) = false) :
    sufB (a.extract p a.size) (b.extract p b.size) k = 0 := by
  refine sufB_ne (by simp; omega) (by simp; omega) ?_
  rw [extract_get, extract_get]
  simpa [show p + (a.size - p - 1 - k) = a.size - 1 - k by omega, show p + (b.size - p - 1 - k) = b.size - 1 - k by omega] using h
theorem sufX_end {a b : ByteArray} {p k : Nat} (h : a.size - p ≤ k ∨ b.size - p ≤ k) : sufB (a.extract p a.size) (b.extract p b.size) k = 0 := sufB_end (by simpa using h)
theorem preB_le_left (a b : ByteArray) : preB a b 0 ≤ a.size := by have := pre_le_left (a.data.toList.drop 0) (b.data.toList.drop 0); simpa [preB] using this
theorem preB_le_right (a b : ByteArray) : preB a b 0 ≤ b.size := by have := pre_le_right (a.data.toList.drop 0) (b.data.toList.drop 0); simpa [preB] using this
theorem sufB_le_left (a b : ByteArray) : sufB a b 0 ≤ a.size := by have := pre_le_left (a.data.toList.reverse.drop 0) (b.data.toList.reverse.drop 0); simpa [sufB] using this
theorem sufB_le_right (a b : ByteArray) : sufB a b 0 ≤ b.size := by have := pre_le_right (a.data.toList.reverse.drop 0) (b.data.toList.reverse.drop 0); simpa [sufB] using this

theorem edsPost_nil (w W : World) (hb : Below w.heap.size w W) (c : Nat) : EdsPost w [] (.returned (.slice none 0 c)) W :=
  ⟨none, 0, c, rfl, ⟨rfl, Nat.zero_le _, by simp, by simp⟩, hb⟩
theorem edsPost_one (w W : World) (e : Ed) (he : e.fits) (hb : Below w.heap.size w W) :
    EdsPost w [e] (.returned (.slice (some ⟨W.heap.size, 0, none⟩) 1 1)) (W.alloc (.cells #[.int .i64 e.lo, .int .i64 e.hi, .string e.text] 36)) := by
  have hs := hb.size
  refine ⟨_, _, _, rfl, ⟨rfl, by decide, by simpa using he, fun _ => ⟨_, _, rfl, ⟨hs, by simp⟩, fun k x hk => ?_⟩⟩, hb.alloc hs _⟩
  have hblk := Blk.new W 36 #[.int .i64 e.lo, .int .i64 e.hi, .string e.text]
  match k, hk with
  | 0, hk =>
    obtain rfl : e = x := by simpa using hk
    exact ⟨hblk.cell 0, hblk.cell 1, hblk.cell 2⟩

theorem diffL_fits {a b : ByteArray} (ha : a.size ≤ maxLen) (hb : b.size ≤ maxLen) : ∀ e ∈ diffL a b, e.fits := by
  intro e he
  unfold diffL at he
  split at he
  · simp at he
  · obtain rfl := List.mem_singleton.1 he
    have h1 := preB_le_left a b
    have h3 := sufB_le_left (a.extract (preB a b 0) a.size) (b.extract (preB a b 0) b.size)
    have h4 : (a.extract (preB a b 0) a.size).size = a.size - preB a b 0 := by simp
    simp only [maxLen] at ha hb
    refine ⟨by simp only []; omega, by simp only []; omega, by simp only []; omega, by simp only []; omega, ?_⟩
    simp only [ByteArray.size_extract, maxLen]
    omega
theorem diff_same {a b : ByteArray} (h : (a.toList == b.toList) = true) : diffL a b = [] := by simp [diffL, h]
theorem diff_other {a b : ByteArray} (h : (a.toList == b.toList) = false) : diffL a b =
    [⟨(preB a b 0 : Nat), (a.size : Int) - (sufB (a.extract (preB a b 0) a.size) (b.extract (preB a b 0) b.size) 0 : Nat),
      b.extract (preB a b 0) (b.size - sufB (a.extract (preB a b 0) a.size) (b.extract (preB a b 0) b.size) 0)⟩] := by simp [diffL, h]
theorem extract_cut (b : ByteArray) (p s : Nat) (hp : p ≤ b.size) (h : s ≤ b.size - p) : (b.extract p b.size).extract 0 ((b.extract p b.size).size - s) = b.extract p (b.size - s) := by
  have e1 : (b.extract p b.size).size = b.size - p := by simp
  rw [e1, ByteArray.extract_extract]
  have e2 : min (p + (b.size - p - s)) b.size = b.size - s := by omega
  rw [e2]
  rfl
/-- How the first walk's end reads. -/
theorem diff_close {a b x y : ByteArray} {p s : Nat} {w W : World} (ha : a.size ≤ maxLen) (hb : b.size ≤ maxLen) (hne : (a.toList == b.toList) = false) (h1 : preB a b 0 = p) (h2 : a.extract p a.size = x) (h3 : b.extract p b.size = y) (h4 : sufB x y 0 = s) (hW : Below w.heap.size w W) :
    EdsPost w (diffL a b) (.returned (.slice (some ⟨W.heap.size, 0, none⟩) 1 1)) (W.alloc (.cells #[.int .i64 (p : Nat), .int .i64 ((a.size : Int) - (s : Nat)), .string (y.extract 0 (y.size - s))] 36)) := by
  have hf := diffL_fits ha hb
  rw [diff_other hne] at hf ⊢
  subst h1 h2 h3 h4
  have l2 := sufB_le_right (a.extract (preB a b 0) a.size) (b.extract (preB a b 0) b.size)
  have hy : (b.extract (preB a b 0) b.size).size = b.size - preB a b 0 := by simp
  have l3 := preB_le_right a b
  rw [hy] at l2
  rw [extract_cut _ _ _ l3 l2]
  exact edsPost_one w W _ (hf _ (List.mem_singleton.2 rfl)) hW
/-- How the reference's walk's end reads. -/
theorem diff_close2 {a b : ByteArray} {p s : Nat} {w W : World} (ha : a.size ≤ maxLen) (hb : b.size ≤ maxLen) (hne : (a.toList == b.toList) = false) (h1 : preB a b 0 = p) (h4 : sufB (a.extract p a.size) (b.extract p b.size) 0 = s) (hW : Below w.heap.size w W) :
    EdsPost w (diffL a b) (.returned (.slice (some ⟨W.heap.size, 0, none⟩) 1 1)) (W.alloc (.cells #[.int .i64 (p : Nat), .int .i64 ((a.size : Int) - (s : Nat)), .string (b.extract p (b.size - s))] 36)) := by
  have hf := diffL_fits ha hb
  rw [diff_other hne] at hf ⊢
  subst h1 h4
  exact edsPost_one w W _ (hf _ (List.mem_singleton.2 rfl)) hW

/-- The slice of n places from a on reads as the numbers c, each a byte, in blocks of F. -/
def IsBytes (w : World) (F : Nat → Prop) (a : Option Addr) (n : Nat) (c : List Int) : Prop :=
  n = c.length ∧ n ≤ maxLen ∧ (∀ x ∈ c, 0 ≤ x ∧ x ≤ 255) ∧
    (c ≠ [] → ∃ b o, a = some ⟨b, o, none⟩ ∧ F b ∧ ∀ (k : Nat) (x : Int), c[k]? = some x → w.cell? ⟨b, o + k, none⟩ = some (.int .u8 x))
theorem IsBytes.get {w : World} {F : Nat → Prop} {a : Option Addr} {n : Nat} {c : List Int} (h : IsBytes w F a n c) {k : Nat} (hk : k < c.length) :
    ∃ b o, a = some ⟨b, o, none⟩ ∧ F b ∧ w.cell? ⟨b, o + k, none⟩ = some (.int .u8 c[k]) ∧ 0 ≤ c[k] ∧ c[k] ≤ 255 := by
  obtain ⟨_, _, hf, hc⟩ := h
  have hne : c ≠ [] := by intro e; subst e; simp at hk
  obtain ⟨b', o', ha, hF, hcell⟩ := hc hne
  exact ⟨b', o', ha, hF, hcell k _ (by simp [hk]), hf _ (by simp)⟩

def xyzw : ByteArray := ⟨#[120, 121, 122, 119]⟩
/-- Where the next edit may begin. -/
def nextAt (f t c : Int) : Int := if 250 < c then max t (f + 1) - 1 else max t (f + 1)
def edsL (n : Int) : Nat → Int → List Int → List Ed
  | k + 1, p, c0 :: c1 :: c2 :: r =>
    if n < p + c0 % 4 + c1 % 4 then [] else
      ⟨p + c0 % 4, p + c0 % 4 + c1 % 4, xyzw.extract 0 (c2 % 5).toNat⟩ :: edsL n k (nextAt (p + c0 % 4) (p + c0 % 4 + c1 % 4) c2) r
  | _, _, _ => []
def edCells (e : Ed) : List Value := [.int .i64 e.lo, .int .i64 e.hi, .string e.text]

theorem edCells_len (e : Ed) : (edCells e).length = 3 := rfl
theorem IsEds.of_own {w : World} {base : Nat} {v : Value} {n : Nat} {l : List Ed} (h : w.ownsRow base 36 3 v n (l.flatMap edCells)) (hn : n = l.length) (hm : n ≤ maxLen) (hf : ∀ e ∈ l, e.fits) :
    ∃ a c, v = .slice a n c ∧ IsEds w (fun b => base ≤ b ∧ b < w.heap.size) a n l := by
  obtain ⟨a, c, rfl⟩ := own_form h
  refine ⟨a, c, rfl, hn, hm, hf, fun hne => ?_⟩
  have hx : l.flatMap edCells ≠ [] := by
    intro e
    have := flatMap_len edCells 3 edCells_len l
    rw [e] at this
    exact hne (List.eq_nil_of_length_eq_zero (by simp at this; omega))
  obtain ⟨g, rfl, hb, hlt, hc⟩ := own_block h hx
  refine ⟨g, 0, rfl, ⟨hb, hlt⟩, fun k e hk => ?_⟩
  have hkl : k < l.length := by
    rcases Nat.lt_or_ge k l.length with hh | hh
    · exact hh
    · rw [List.getElem?_eq_none hh] at hk; cases hk
  have hl := flatMap_len edCells 3 edCells_len l
  have g0 := flatMap_get edCells 3 edCells_len l k e 0 hk (by omega)
  have g1 := flatMap_get edCells 3 edCells_len l k e 1 hk (by omega)
  have g2 := flatMap_get edCells 3 edCells_len l k e 2 hk (by omega)
  refine ⟨?_, ?_, ?_⟩
  · rw [show 0 + k * 3 = k * 3 + 0 by omega, hc _ (by omega), g0]; rfl
  · rw [show 0 + k * 3 + 1 = k * 3 + 1 by omega, hc _ (by omega), g1]; rfl
  · rw [show 0 + k * 3 + 2 = k * 3 + 2 by omega, hc _ (by omega), g2]; rfl
theorem edsPost_own {w W : World} {v : Value} {n : Nat} {l : List Ed} (h : W.ownsRow w.heap.size 36 3 v n (l.flatMap edCells)) (hn : n = l.length) (hm : n ≤ maxLen) (hf : ∀ e ∈ l, e.fits) (hb : Below w.heap.size w W) : EdsPost w l (.returned v) W := by
  obtain ⟨a, c, rfl, hI⟩ := IsEds.of_own h hn hm hf
  exact ⟨a, n, c, rfl, hI, hb⟩

end Go.Proofs.Ytfncmabjmlmcfaa
