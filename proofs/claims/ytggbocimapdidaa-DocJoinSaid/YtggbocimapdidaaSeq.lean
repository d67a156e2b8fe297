/-
  A range over the leaves of a document: what the iterator and the loop's body promise each other, and the law of the statement.
  Its conditions: the body keeps all blocks but one (a builder's) and rows of bytes; it leaves by its end or by return.
-/
import Derived.Test.YtggbocimapdidaaLists
import Derived.RangeFuncNested
import Derived.RangeFuncBound
import Derived.RangeFuncCalls
import Derived.RangeFuncLeaves
import Derived.Shelf.Abstract
import Derived.Shelf.RegionOpen
import Derived.OwnWalkIn
import Derived.TacticsInMore
import Derived.LoopNIn
import Derived.LoopIn
import Derived.Lib.OthersKept
namespace Go.Proofs.Ytggbocimapdidaa
open Go.RowKit

/-- What a round that goes on keeps: all but block b and rows of bytes; what lay below n₀; whatever is no cells. -/
structure Kp (n₀ b : Nat) (W W' : World) : Prop where
  others : Lib.OthersKept 5 (some b) W W'
  below : Below n₀ W W'
  recs : KeepsOthers W W'

theorem Kp.refl (n₀ b : Nat) (W : World) : Kp n₀ b W W := ⟨Lib.OthersKept.refl _ _ _, Below.refl _ _, KeepsOthers.refl _⟩
theorem Kp.trans {n₀ b : Nat} {X Y Z : World} (h : Kp n₀ b X Y) (k : Kp n₀ b Y Z) : Kp n₀ b X Z := ⟨h.others.trans k.others, h.below.trans k.below, h.recs.trans k.recs⟩
theorem Kp.alloc {n₀ b : Nat} {X Y : World} (h : Kp n₀ b X Y) (hn : n₀ ≤ X.heap.size) (o : Obj) : Kp n₀ b X (Y.alloc o) := ⟨h.others.alloc o, h.below.alloc (Nat.le_trans hn h.below.size) o, h.recs.trans (KeepsOthers.alloc _ _)⟩
/-- A turn of a block that X did not hold. -/
theorem Kp.put {n₀ b : Nat} {X Y : World} (h : Kp n₀ b X Y) (hn : n₀ ≤ X.heap.size) {l : Nat} (hl : X.heap.size ≤ l) (o : Obj) : Kp n₀ b X (Y.putObj l o) := by
  refine ⟨fun k x hk hb hx => ?_, ?_, ⟨by simpa using h.recs.size, fun k x hk hx => ?_⟩⟩
  · have := (Array.getElem?_eq_some_iff.1 hk).1
    exact (World.putObj_heap_other (by omega)).trans (h.others k x hk hb hx)
  · exact h.below.grown (grownBy_putObj' Y l o) (Nat.le_trans hn h.below.size) (fun r hr => by cases hr; omega)
  · have := (Array.getElem?_eq_some_iff.1 hk).1
    exact (World.putObj_heap_other (by omega)).trans (h.recs.same k x hk hx)
/-- A turn of a block that holds at the end what it held at the start. -/
theorem Kp.back {n₀ b : Nat} {X Y : World} {l : Nat} {o o' : Obj} (hX : X.heap[l]? = some o) (h : Kp n₀ b (X.putObj l o') Y) (hn : n₀ ≤ l) (hl : l < Y.heap.size) : Kp n₀ b X (Y.putObj l o) := by
  refine ⟨fun k x hk hb hx => ?_, ?_, ⟨by have := h.recs.size; simpa using this, fun k x hk hx => ?_⟩⟩
  · by_cases e : k = l
    · subst e
      rw [hX] at hk
      rw [World.putObj_heap_same hl, hk]
    · exact (World.putObj_heap_other e).trans (h.others k x ((World.putObj_heap_other e).trans hk) hb hx)
  · have hlX := (Array.getElem?_eq_some_iff.1 hX).1
    have h1 : Below n₀ X (X.putObj l o') := (Below.refl n₀ X).grown (grownBy_putObj' X l o') (by omega) (fun r hr => by cases hr; exact hn)
    have h2 := h1.trans h.below
    exact h2.grown (grownBy_putObj' Y l o) (by have := h2.size; omega) (fun r hr => by cases hr; exact hn)
  · by_cases e : k = l
    · subst e
      rw [hX] at hk
      rw [World.putObj_heap_same hl, hk]
    · exact (World.putObj_heap_other e).trans (h.recs.same k x ((World.putObj_heap_other e).trans hk) hx)
theorem Kp.blk {n₀ b : Nat} {W W' : World} (h : Kp n₀ b W W') {g : Nat} {t : TypeId} {cs : Array Value} (hb : Blk W g t cs) (hg : g ≠ b) (ht : t ≠ 5) : Blk W' g t cs :=
  h.others g _ hb (fun e => hg (by cases e; rfl)) (fun c fz e => by cases e; exact ht rfl)

/-- A leaf, and the value that is handed to yield. -/
def LeafIs (x : Dc) (v : Value) : Prop := ∃ k s n ks a m c, x = .mk k s n ks ∧ v = .agg #[.int .i64 k, .string s, .int .i64 n, .slice a m c] ∧ k < 5 ∧ (-9223372036854775808 ≤ k ∧ k ≤ 9223372036854775807) ∧ s.size ≤ maxLen

/-- The iterator's contract: the leaves of L come, one by one, unless a round says 'no more'. -/
def SeqLeaf (P : Program) (gf B n₀ b : Nat) (L : List Dc) (W : World) : Prop :=
  ∀ (l : Nat) (pre0 : List Dc) (J Jx : List Dc → World → Prop), OwnFrom W.heap.size J → OwnFrom W.heap.size Jx →
    (∀ pre x v W1, J pre W1 → LeafIs x v → pre ++ [x] <+: pre0 ++ L → YieldAt Fence.wide 0 P l #[v] W1 fun e W' =>
      (e = .returned (.bool true) ∧ J (pre ++ [x]) W' ∧ Kp n₀ b W1 W') ∨ (e = .returned (.bool false) ∧ Jx (pre ++ [x]) W' ∧ KeepsFrom W.heap.size W1 W')) →
    J pre0 W →
    CallsIn Fence.wide 0 P gf #[.func (.yield l) #[] #[], .pointer (some ⟨B, 0, none⟩)] W fun e W' => (∃ r, e = .returned r) ∧ ((J (pre0 ++ L) W' ∧ Kp n₀ b W W') ∨ ∃ pre, Jx pre W')

/-- How a round's body may be left. -/
def roundPostL (B0 n₀ b : Nat) (I Ix : List Dc → World → Prop) (xs : List Dc) (W : World) : Exit → Act → World → Prop
  | .normal, _, W' => Kp n₀ b W W' ∧ I xs W'
  | .ret, _, W' => KeepsFrom B0 W W' ∧ Ix xs W'
  | _, _, _ => False

theorem KeepsFrom.mono_ {B B' : Nat} {X Y : World} (h : KeepsFrom B X Y) (hB : B ≤ B') : KeepsFrom B' X Y := ⟨h.size, fun k o hk => h.same k o (Nat.le_trans hB hk)⟩
theorem OwnFrom.mono_ {β : Type} {B B' : Nat} {I : β → World → Prop} (h : OwnFrom B I) (hB : B ≤ B') : OwnFrom B' I := fun s X Y row hs hg hr => h s X Y row hs hg (fun r e => ⟨Nat.le_trans hB (hr r e).1, (hr r e).2⟩)

set_option maxHeartbeats 1000000 in
/-- The statement 'for l := range leaves(..)'. -/
theorem range_leaf {P : Program} {gf B n₀ b : Nat} {g : Operand} {p : Tmp} {assign body : Code} {Q : Exit → Act → World → Prop} {a : Act} {w : World} {L pre0 : List Dc}
    (hg : a.eval g = .func (.func gf) #[] #[.pointer (some ⟨B, 0, none⟩)]) (eg : ∀ args w, (callFunc gf args).run P w = .ok (.enter gf args) w) (hn : n₀ ≤ w.heap.size)
    (hseq : ∀ W, Below w.heap.size w W → SeqLeaf P gf B n₀ b L W)
    (I Ix : List Dc → World → Prop) (hI : OwnFrom w.heap.size I) (hIx : OwnFrom w.heap.size Ix) (h0 : I pre0 w) (a₁ : Value → Nat → Act)
    (hassign : ∀ (l : Nat) (k : Int) (s : ByteArray) (n : Int) (a' : Option Addr) (m c : Nat) (W : World) (K : Act → World → Prop), K (a₁ (.agg #[.int .i64 k, .string s, .int .i64 n, .slice a' m c]) W.heap.size) (W.alloc (.cells #[.int .i64 k, .string s, .int .i64 n, .slice a' m c] 25)) →
      assign.wpIn (Fence.wide.inRound l) 0 P (Exit.then K (fun _ _ _ => False)) { tmps := a.tmps.setIfInBounds p (.agg #[.int .i64 k, .string s, .int .i64 n, .slice a' m c]), defers := [] } W)
    (hbody : ∀ (l : Nat) (pre : List Dc) (k : Int) (s : ByteArray) (n : Int) (ks : Dcs) (a' : Option Addr) (m c : Nat) (gx : Nat) (W : World), w.heap.size ≤ gx → gx < W.heap.size → I pre W → Blk W gx 25 #[.int .i64 k, .string s, .int .i64 n, .slice a' m c] → k < 5 → (-9223372036854775808 ≤ k ∧ k ≤ 9223372036854775807) → s.size ≤ maxLen → pre ++ [.mk k s n ks] <+: pre0 ++ L →
      body.wpIn (Fence.wide.inRound l) 0 P (roundPostL w.heap.size n₀ b I Ix (pre ++ [.mk k s n ks]) W) (a₁ (.agg #[.int .i64 k, .string s, .int .i64 n, .slice a' m c]) gx) W)
    (hdone : ∀ (D : Nat) (W : World), w.heap.size ≤ D → D < W.heap.size → I (pre0 ++ L) W → W.heap[D]? = some (.deferred (some [])) → Kp n₀ b w W → Q .normal { a with defers := { target := .collected D, args := #[] } :: a.defers } W)
    (hstop : ∀ (D : Nat) (pre : List Dc) (W : World), w.heap.size ≤ D → D < W.heap.size → Ix pre W → W.heap[D]? = some (.deferred (some [])) → Code.ret.wpIn Fence.wide 0 P Q { a with defers := { target := .collected D, args := #[] } :: a.defers } W) :
    (Code.rangeFunc g #[p] assign body).wpIn Fence.wide 0 P Q a w := by
  refine wpIn_rangeFunc ?_
  intro fn hfn
  obtain ⟨rec, hrec⟩ : ∃ rec : LoopState → Option Code → Loop, rec = fun st pe => { state := st, pending := pe, fn, tmps := a.tmps, params := #[p], assign, body, defers := w.heap.size } := ⟨_, rfl⟩
  obtain ⟨W1, hW1⟩ : ∃ W1, (w.alloc (.deferred (some []))).alloc (.loop (rec .ready none)) = W1 := ⟨_, rfl⟩
  have hz1 : W1.heap.size = w.heap.size + 2 := by rw [← hW1]; simp
  have hL1 : W1.heap[w.heap.size + 1]? = some (.loop (rec .ready none)) := by
    rw [← hW1]
    have := World.alloc_heap_new (w.alloc (.deferred (some []))) (.loop (rec .ready none))
    rwa [World.size_alloc] at this
  have hK1 : W1.heap[w.heap.size]? = some (.deferred (some [])) := by
    rw [← hW1]
    exact (Below.heap_alloc _ _ _ (by simp)).trans (World.alloc_heap_new w _)
  have hb1 : Below w.heap.size w W1 := by
    rw [← hW1]
    exact ((Below.refl _ w).alloc (Nat.le_refl _) _).alloc (by simp) _
  have hk1 : Kp n₀ b w W1 := by
    rw [← hW1]
    exact ((Kp.refl n₀ b w).alloc hn _).alloc hn _
  have hI1 : I pre0 W1 := by rw [← hW1]; exact hI.alloc _ (hI.alloc _ h0)
  refine ⟨w.heap.size + 1, [{ target := .collected w.heap.size, args := #[] }], W1, { target := .fn (.func gf) #[.pointer (some ⟨B, 0, none⟩)], args := #[.func (.yield (w.heap.size + 1)) #[] #[]] }, W1, gf,
    #[.func (.yield (w.heap.size + 1)) #[] #[], .pointer (some ⟨B, 0, none⟩)], W1, ?_, ?_, fun _ _ => trivial, ?_, fun h => (by cases h), ?_⟩
  · rw [← hW1, hrec]; exact run_enterLoop_outer _ _ _ _ _
  · simp only [resolve, hg]
    simp [go_sem]
  · simp [invoke, go_sem, eg]
  refine (hseq W1 hb1 (w.heap.size + 1) pre0
    (fun pre W => I pre W ∧ W.heap[w.heap.size + 1]? = some (.loop (rec .ready none)) ∧ W.heap[w.heap.size]? = some (.deferred (some [])))
    (fun pre W => Ix pre W ∧ W.heap[w.heap.size + 1]? = some (.loop (rec .done (some .ret))) ∧ W.heap[w.heap.size]? = some (.deferred (some []))) ?_ ?_ ?_ ⟨hI1, hL1, hK1⟩).mono ?_
  · intro s X Y row hs hg' hr
    exact ⟨hI s X Y row hs.1 hg' (fun r e => ⟨by have := (hr r e).1; omega, (hr r e).2⟩), (hg'.block _ (Array.getElem?_eq_some_iff.1 hs.2.1).1 (fun e => by have := (hr _ e.symm).1; omega)).trans hs.2.1,
      (hg'.block _ (Array.getElem?_eq_some_iff.1 hs.2.2).1 (fun e => by have := (hr _ e.symm).1; omega)).trans hs.2.2⟩
  · intro s X Y row hs hg' hr
    exact ⟨hIx s X Y row hs.1 hg' (fun r e => ⟨by have := (hr r e).1; omega, (hr r e).2⟩), (hg'.block _ (Array.getElem?_eq_some_iff.1 hs.2.1).1 (fun e => by have := (hr _ e.symm).1; omega)).trans hs.2.1,
      (hg'.block _ (Array.getElem?_eq_some_iff.1 hs.2.2).1 (fun e => by have := (hr _ e.symm).1; omega)).trans hs.2.2⟩
  · rintro pre x v W ⟨hi, hl, hk⟩ ⟨k, s, n, ks, a', m, c, rfl, rfl, h5, hkk, hss⟩ hpre
    have hy := run_yield (P := P) (args := #[.agg #[.int .i64 k, .string s, .int .i64 n, .slice a' m c]]) hl (by rw [hrec]; rfl)
    rw [hrec] at hy
    have hy2 : (Instr.yield (w.heap.size + 1) #[.agg #[.int .i64 k, .string s, .int .i64 n, .slice a' m c]]).run P W = .ok (.round (w.heap.size + 1) fn (a.tmps.setIfInBounds p (.agg #[.int .i64 k, .string s, .int .i64 n, .slice a' m c])) assign body) W := by
      rw [hy]
      simp
    refine ⟨fn, _, assign, body, hy2, roundIn_of_wpIn trivial (hassign (w.heap.size + 1) k s n a' m c W _ ?_)⟩
    clear hy hy2
    have hlt : w.heap.size + 1 < W.heap.size := (Array.getElem?_eq_some_iff.1 hl).1
    obtain ⟨Wa, hWa⟩ : ∃ Wa, W.alloc (.cells #[.int .i64 k, .string s, .int .i64 n, .slice a' m c] 25) = Wa := ⟨_, rfl⟩
    rw [hWa]
    have hza : Wa.heap.size = W.heap.size + 1 := by rw [← hWa]; simp
    have hla : Wa.heap[w.heap.size + 1]? = some (.loop (rec .ready none)) := by rw [← hWa]; exact (Below.heap_alloc _ _ _ hlt).trans hl
    have hka : Wa.heap[w.heap.size]? = some (.deferred (some [])) := by rw [← hWa]; exact (Below.heap_alloc _ _ _ (by omega)).trans hk
    have hia : I pre Wa := by rw [← hWa]; exact hI.alloc _ hi
    have hba : Blk Wa W.heap.size 25 #[.int .i64 k, .string s, .int .i64 n, .slice a' m c] := hWa ▸ Blk.new W 25 _
    have hkWa : Kp n₀ b W Wa := by rw [← hWa]; exact (Kp.refl n₀ b W).alloc (by omega) _
    have hfWa : KeepsFrom W1.heap.size W Wa := hkWa.recs.from _
    refine ⟨_, run_beginRound hla (by rw [hrec]), ?_⟩
    have hl2 : (Wa.putObj (w.heap.size + 1) (.loop { rec .ready none with state := .busy })).heap[w.heap.size + 1]? = some (.loop { rec .ready none with state := .busy }) := World.putObj_heap_same (by omega)
    have hk2 : (Wa.putObj (w.heap.size + 1) (.loop { rec .ready none with state := .busy })).heap[w.heap.size]? = some (.deferred (some [])) := (World.putObj_heap_other (by omega)).trans hka
    have hb2 : Blk (Wa.putObj (w.heap.size + 1) (.loop { rec .ready none with state := .busy })) W.heap.size 25 #[.int .i64 k, .string s, .int .i64 n, .slice a' m c] := (World.putObj_heap_other (by omega)).trans hba
    refine wpIn_mono (hbody _ pre k s n ks a' m c W.heap.size _ (by omega) (by simp; omega) (hI.putObj _ hia (by omega) hla rfl) hb2 h5 hkk hss hpre) ?_
    rintro e a3 W3 hp
    cases e with
    | normal =>
      obtain ⟨hkp, hi3⟩ := hp
      have hl3 := hkp.recs.same _ _ hl2 rfl
      have hk3 := hkp.recs.same _ _ hk2 rfl
      have hend := run_endRound (P := P) none hl3
      have hlt3 := (Array.getElem?_eq_some_iff.1 hl3).1
      refine ⟨_, _, hend, .inl ⟨rfl, ⟨hI.putObj _ hi3 (by omega) hl3 rfl, ?_, (World.putObj_heap_other (by omega)).trans hk3⟩, hkWa.trans ?_⟩⟩
      · rw [World.putObj_heap_same hlt3, hrec]; rfl
      · have : ({ ({ rec .ready none with state := .busy } : Loop) with state := if (none : Option Code).isNone then .ready else .done, pending := none } : Loop) = rec .ready none := by rw [hrec]; rfl
        rw [this]
        exact Kp.back hla hkp (by omega) hlt3
    | ret =>
      obtain ⟨hkf, hi3⟩ := hp
      have hl3 := hkf.same _ _ (by omega) hl2 rfl
      have hk3 := hkf.same _ _ (Nat.le_refl _) hk2 rfl
      have hend := run_endRound (P := P) (some .ret) hl3
      have hlt3 := (Array.getElem?_eq_some_iff.1 hl3).1
      refine ⟨_, _, hend, .inr ⟨rfl, ⟨hIx.putObj _ hi3 (by omega) hl3 rfl, ?_, (World.putObj_heap_other (by omega)).trans hk3⟩, ⟨?_, fun i o hB hi ho => ?_⟩⟩⟩
      · rw [World.putObj_heap_same hlt3, hrec]; rfl
      · have h1 := hkf.size
        simp at h1 ⊢
        omega
      · have h1 := hfWa.same i o hB hi ho
        exact (World.putObj_heap_other (by omega)).trans (hkf.same i o (by omega) ((World.putObj_heap_other (by omega)).trans h1) ho)
    | exit id => exact hp.elim
    | goto t => exact hp.elim
    | panic ch => exact hp.elim
    | outgrown => exact hp.elim
  · rintro e W2 ⟨⟨v, rfl⟩, (⟨⟨hi, hl, hk⟩, hkp⟩ | ⟨pre, hi, hl, hk⟩)⟩
    · have hlt := (Array.getElem?_eq_some_iff.1 hl).1
      refine ⟨none, _, by have := run_endLoop (P := P) hl (by rw [hrec]; simp); rw [hrec] at this; exact this, hdone _ _ (Nat.le_refl _) (by simp; omega) (hI.putObj _ hi (by omega) hl rfl) ((World.putObj_heap_other (by omega)).trans hk) ((hk1.trans hkp).put hn (by omega) _)⟩
    · have hlt := (Array.getElem?_eq_some_iff.1 hl).1
      refine ⟨some .ret, _, by have := run_endLoop (P := P) hl (by rw [hrec]; simp); rw [hrec] at this; exact this, hstop _ pre _ (Nat.le_refl _) (by simp; omega) (hIx.putObj _ hi (by omega) hl rfl) ((World.putObj_heap_other (by omega)).trans hk)⟩

end Go.Proofs.Ytggbocimapdidaa
