/-
  A range over the paths of brackets: what the iterator and the loop's body promise each other, and the law of the statement. Its conditions: the body keeps all blocks but one (a variable of a row), and that row's; it leaves by its end or by return.
-/
import Derived.Test.YtacgmmpdichlmaaGreatM27
import Derived.RangeFuncNested
import Derived.RangeFuncBound
import Derived.RangeFuncCalls
import Derived.RangeFuncLeaves
import Derived.Shelf.Abstract
import Derived.Shelf.RegionOpen
import Derived.OwnWalkIn
import Derived.TacticsInMore
import Derived.LoopNIn
import Derived.LoopIn
import Derived.OrdersIn
namespace Go.Proofs.YtacgmmpdichlmaaGreat
open Go.RowKit

/-- The blocks of the row's variable, and of the row that it holds. -/
def Ow (b : Nat) (W : World) (k : Nat) : Prop := k = b ∨ ∃ v, W.cell? ⟨b, 0, none⟩ = some v ∧ v.ownBlock = some k
theorem Ow.congr {b : Nat} {W W' : World} (h : W'.heap[b]? = W.heap[b]?) (k : Nat) : Ow b W' k ↔ Ow b W k := by
  unfold Ow
  rw [World.cell?_of_block (w := W) (w' := W') (a := ⟨b, 0, none⟩) h]
/-- What a round that goes on keeps: all but those blocks; what lay below n₀; whatever is no cells. -/
structure Kq (n₀ b : Nat) (W W' : World) : Prop where
  keep : ∀ k, k < W.heap.size → ¬ Ow b W k → W'.heap[k]? = W.heap[k]?
  own : ∀ k, Ow b W' k → Ow b W k ∨ W.heap.size ≤ k
  below : Below n₀ W W'
  recs : KeepsOthers W W'
  wf : (∀ k, Ow b W k → k < W.heap.size) → ∀ k, Ow b W' k → k < W'.heap.size
theorem Kq.refl (n₀ b : Nat) (W : World) : Kq n₀ b W W := ⟨fun _ _ _ => rfl, fun _ h => Or.inl h, Below.refl _ _, KeepsOthers.refl _, fun h => h⟩
theorem Kq.trans {n₀ b : Nat} {X Y Z : World} (h : Kq n₀ b X Y) (k : Kq n₀ b Y Z) : Kq n₀ b X Z := by
  have hs := h.recs.size
  refine ⟨fun i hi ho => ?_, fun i hi => ?_, h.below.trans k.below, h.recs.trans k.recs, fun hw => k.wf (h.wf hw)⟩
  · have ho' : ¬ Ow b Y i := fun e => by
      rcases h.own i e with e | e
      · exact ho e
      · omega
    exact (k.keep i (by omega) ho').trans (h.keep i hi ho)
  · rcases k.own i hi with e | e
    · exact h.own i e
    · exact Or.inr (by omega)
/-- Steps that only make memory. -/
theorem Kq.of_below {n₀ b : Nat} {X Y : World} (hb : Below X.heap.size X Y) (hn : n₀ ≤ X.heap.size) (hbX : b < X.heap.size) : Kq n₀ b X Y :=
  ⟨fun k hk _ => hb.block k hk, fun k hk => Or.inl ((Ow.congr (hb.block b hbX) k).1 hk), hb.mono hn, ⟨hb.size, fun k _o hk _ => (hb.block k (Array.getElem?_eq_some_iff.1 hk).1).trans hk⟩, fun hw k hk => Nat.lt_of_lt_of_le (hw k ((Ow.congr (hb.block b hbX) k).1 hk)) hb.size⟩
/-- A turn of a block that X did not hold. -/
theorem Kq.put {n₀ b : Nat} {X Y : World} (h : Kq n₀ b X Y) (hn : n₀ ≤ X.heap.size) (hbX : b < X.heap.size) {l : Nat} (hl : X.heap.size ≤ l) (o : Obj) : Kq n₀ b X (Y.putObj l o) := by
  refine ⟨fun k hk ho => (World.putObj_heap_other (by omega)).trans (h.keep k hk ho), fun k hk => h.own k ((Ow.congr (World.putObj_heap_other (by omega)) k).1 hk), ?_, ⟨by simpa using h.recs.size, fun k x hk hx => ?_⟩, fun hw k hk => by simpa using h.wf hw k ((Ow.congr (World.putObj_heap_other (by omega)) k).1 hk)⟩
  · exact h.below.grown (grownBy_putObj' Y l o) (Nat.le_trans hn h.below.size) (fun r hr => by cases hr; omega)
  · have := (Array.getElem?_eq_some_iff.1 hk).1
    exact (World.putObj_heap_other (by omega)).trans (h.recs.same k x hk hx)
/-- A turn of a block that holds at the end what it held at the start. -/
theorem Kq.back {n₀ b : Nat} {X Y : World} {l : Nat} {o o' : Obj} (hX : X.heap[l]? = some o) (h : Kq n₀ b (X.putObj l o') Y) (hn : n₀ ≤ l) (hbl : b < l) (hl : l < Y.heap.size) : Kq n₀ b X (Y.putObj l o) := by
  have hcx := fun k => Ow.congr (b := b) (W := X) (W' := X.putObj l o') (World.putObj_heap_other (by omega)) k
  have hcy := fun k => Ow.congr (b := b) (W := Y) (W' := Y.putObj l o) (World.putObj_heap_other (by omega)) k
  refine ⟨fun k hk ho => ?_, fun k hk => ?_, ?_, ⟨by have := h.recs.size; simpa using this, fun k x hk hx => ?_⟩, fun hw k hk => by simpa using h.wf (fun k hk => by simpa using hw k ((hcx k).1 hk)) k ((hcy k).1 hk)⟩
  · by_cases e : k = l
    · subst e
      rw [World.putObj_heap_same hl, hX]
    · exact (World.putObj_heap_other e).trans ((h.keep k (by simpa using hk) (fun h => ho ((hcx k).1 h))).trans (World.putObj_heap_other e))
  · rcases h.own k ((hcy k).1 hk) with e | e
    · exact Or.inl ((hcx k).1 e)
    · exact Or.inr (by simpa using e)
  · have hlX := (Array.getElem?_eq_some_iff.1 hX).1
    have h1 : Below n₀ X (X.putObj l o') := (Below.refl n₀ X).grown (grownBy_putObj' X l o') (by omega) (fun r hr => by cases hr; exact hn)
    have h2 := h1.trans h.below
    exact h2.grown (grownBy_putObj' Y l o) (by have := h2.size; omega) (fun r hr => by cases hr; exact hn)
  · by_cases e : k = l
    · subst e
      rw [hX] at hk
      rw [World.putObj_heap_same hl, hk]
    · exact (World.putObj_heap_other e).trans (h.recs.same k x ((World.putObj_heap_other e).trans hk) hx)
theorem Kq.blk {n₀ b : Nat} {W W' : World} (h : Kq n₀ b W W') {g : Nat} {t : TypeId} {cs : Array Value} (hb : Blk W g t cs) (hg : ¬ Ow b W g) : Blk W' g t cs := (h.keep g hb.lt hg).trans hb

/-- Blocks that are new since B, and none of those. -/
def Fq (B b : Nat) (W : World) (k : Nat) : Prop := B ≤ k ∧ k < W.heap.size ∧ ¬ Ow b W k
/-- Where a record is turned, cells stand. -/
theorem cell_grown {W W' : World} {r : Nat} {o : Obj} {p : Addr} {v : Value} (hg : W.grownBy W' (some r)) (hr : W.heap[r]? = some o) (ho : o.isCells = false) (hc : W.cell? p = some v) : W'.heap[p.block]? = W.heap[p.block]? := by
  have hlt := World.block_lt_of_cell? W p hc
  refine hg.block p.block hlt (fun e => ?_)
  cases e
  cases o with
  | cells => cases ho
  | _ => simp [World.cell?, hr] at hc
theorem IsPath.records {W W' : World} {F F' : Nat → Prop} {v : Value} {p : List Int} {row : Option Nat} (h : IsPath W F v p) (hg : W.grownBy W' row) (hr : ∀ r, row = some r → ∃ o : Obj, W.heap[r]? = some o ∧ o.isCells = false) (hF : ∀ k, F k → F' k) : IsPath W' F' v p := by
  obtain ⟨a, c, h1, h2, h3⟩ := h
  refine ⟨a, c, h1, h2, fun hne => ?_⟩
  obtain ⟨b, o, ha, hb, hc⟩ := h3 hne
  refine ⟨b, o, ha, hF b hb, fun k x hx => ?_⟩
  have h0 := hc k x hx
  cases row with
  | none => exact (World.cell?_of_block (w := W) (a := ⟨b, o + k, none⟩) (hg.block b (World.block_lt_of_cell? W ⟨b, o + k, none⟩ h0) (by simp))).trans h0
  | some r =>
    obtain ⟨ob, hob, hoc⟩ := hr r rfl
    exact (World.cell?_of_block (w := W) (a := ⟨b, o + k, none⟩) (cell_grown (p := ⟨b, o + k, none⟩) hg hob hoc h0)).trans h0

/-- The iterator's contract: the paths of L come, one by one, unless a round says 'no more'. -/
def SeqPath (P : Program) (gf Bn Bp n₀ b : Nat) (L : List (List Int)) (W : World) : Prop :=
  ∀ (l : Nat) (pre0 : List (List Int)) (J Jx : List (List Int) → World → Prop), OwnFrom W.heap.size J → OwnFrom W.heap.size Jx →
    (∀ pre x v W1, J pre W1 → IsPath W1 (Fq W.heap.size b W1) v x → W.heap.size ≤ W1.heap.size → pre ++ [x] <+: pre0 ++ L → YieldAt Fence.wide 0 P l #[v] W1 fun e W' =>
      (e = .returned (.bool true) ∧ J (pre ++ [x]) W' ∧ Kq n₀ b W1 W') ∨ (e = .returned (.bool false) ∧ Jx (pre ++ [x]) W' ∧ KeepsFrom W.heap.size W1 W')) →
    J pre0 W →
    CallsIn Fence.wide 0 P gf #[.func (.yield l) #[] #[], .pointer (some ⟨Bn, 0, none⟩), .pointer (some ⟨Bp, 0, none⟩)] W fun e W' => (∃ r, e = .returned r) ∧ ((J (pre0 ++ L) W' ∧ Kq n₀ b W W') ∨ ∃ pre, Jx pre W')

/-- How a round's body may be left. -/
def roundPostP (B0 n₀ b : Nat) (I Ix : List (List Int) → World → Prop) (xs : List (List Int)) (W : World) : Exit → Act → World → Prop
  | .normal, _, W' => Kq n₀ b W W' ∧ I xs W'
  | .ret, _, W' => KeepsFrom B0 W W' ∧ Ix xs W'
  | _, _, _ => False
theorem KeepsFrom.mono_ {B B' : Nat} {X Y : World} (h : KeepsFrom B X Y) (hB : B ≤ B') : KeepsFrom B' X Y := ⟨h.size, fun k o hk => h.same k o (Nat.le_trans hB hk)⟩
theorem OwnFrom.mono_ {β : Type} {B B' : Nat} {I : β → World → Prop} (h : OwnFrom B I) (hB : B ≤ B') : OwnFrom B' I := fun s X Y row hs hg hr => h s X Y row hs hg (fun r e => ⟨Nat.le_trans hB (hr r e).1, (hr r e).2⟩)
theorem OwnFrom.below_ {β : Type} {B : Nat} {I : β → World → Prop} (h : OwnFrom B I) {s : β} {X Y : World} (hb : Below X.heap.size X Y) (hs : I s X) : I s Y :=
  h s X Y none hs ⟨hb.os, hb.tape, hb.output, hb.size, fun k hk _ => hb.block k hk⟩ (fun r e => by cases e)

set_option maxHeartbeats 1000000 in
/-- The statement 'for p := range each(..)'. -/
theorem range_path {P : Program} {gf Bn Bp n₀ b : Nat} {g : Operand} {p : Tmp} {assign body : Code} {Q : Exit → Act → World → Prop} {a : Act} {w : World} {L pre0 : List (List Int)}
    (hg : a.eval g = .func (.func gf) #[] #[.pointer (some ⟨Bn, 0, none⟩), .pointer (some ⟨Bp, 0, none⟩)]) (eg : ∀ args w, (callFunc gf args).run P w = .ok (.enter gf args) w) (hn : n₀ ≤ w.heap.size) (hbw : b < w.heap.size)
    (hseq : ∀ W, Below w.heap.size w W → SeqPath P gf Bn Bp n₀ b L W)
    (I Ix : List (List Int) → World → Prop) (hI : OwnFrom w.heap.size I) (hIx : OwnFrom w.heap.size Ix) (h0 : I pre0 w) (a₁ : Value → Act)
    (hassign : ∀ (l : Nat) (a' : Option Addr) (m c : Nat) (W : World) (K : Act → World → Prop), K (a₁ (.slice a' m c)) W →
      assign.wpIn (Fence.wide.inRound l) 0 P (Exit.then K (fun _ _ _ => False)) { tmps := a.tmps.setIfInBounds p (.slice a' m c), defers := [] } W)
    (hbody : ∀ (l : Nat) (pre : List (List Int)) (x : List Int) (a' : Option Addr) (m c : Nat) (W : World), w.heap.size ≤ W.heap.size → I pre W → IsPath W (Fq w.heap.size b W) (.slice a' m c) x → pre ++ [x] <+: pre0 ++ L →
      body.wpIn (Fence.wide.inRound l) 0 P (roundPostP w.heap.size n₀ b I Ix (pre ++ [x]) W) (a₁ (.slice a' m c)) W)
    (hdone : ∀ (D : Nat) (W : World), w.heap.size ≤ D → D < W.heap.size → I (pre0 ++ L) W → W.heap[D]? = some (.deferred (some [])) → Kq n₀ b w W → Q .normal { a with defers := { target := .collected D, args := #[] } :: a.defers } W)
    (hstop : ∀ (D : Nat) (pre : List (List Int)) (W : World), w.heap.size ≤ D → D < W.heap.size → Ix pre W → W.heap[D]? = some (.deferred (some [])) → Code.ret.wpIn Fence.wide 0 P Q { a with defers := { target := .collected D, args := #[] } :: a.defers } W) :
    (Code.rangeFunc g #[p] assign body).wpIn Fence.wide 0 P Q a w := by
  refine wpIn_rangeFunc ?_
  intro fn hfn
  obtain ⟨rec, hrec⟩ : ∃ rec : LoopState → Option Code → Loop, rec = fun st pe => { state := st, pending := pe, fn, tmps := a.tmps, params := #[p], assign, body, defers := w.heap.size } := ⟨_, rfl⟩
  obtain ⟨W1, hW1⟩ : ∃ W1, (w.alloc (.deferred (some []))).alloc (.loop (rec .ready none)) = W1 := ⟨_, rfl⟩
  have hz1 : W1.heap.size = w.heap.size + 2 := by rw [← hW1]; simp
  have hL1 : W1.heap[w.heap.size + 1]? = some (.loop (rec .ready none)) := by
    rw [← hW1]
    have := World.alloc_heap_new (w.alloc (.deferred (some []))) (.loop (rec .ready none))
    rwa [World.size_alloc] at this
  have hK1 : W1.heap[w.heap.size]? = some (.deferred (some [])) := by
    rw [← hW1]
    exact (Below.heap_alloc _ _ _ (by simp)).trans (World.alloc_heap_new w _)
  have hb1 : Below w.heap.size w W1 := by
    rw [← hW1]
    exact ((Below.refl _ w).alloc (Nat.le_refl _) _).alloc (by simp) _
  have hk1 : Kq n₀ b w W1 := Kq.of_below hb1 hn hbw
  have hI1 : I pre0 W1 := by rw [← hW1]; exact hI.alloc _ (hI.alloc _ h0)
  refine ⟨w.heap.size + 1, [{ target := .collected w.heap.size, args := #[] }], W1, { target := .fn (.func gf) #[.pointer (some ⟨Bn, 0, none⟩), .pointer (some ⟨Bp, 0, none⟩)], args := #[.func (.yield (w.heap.size + 1)) #[] #[]] }, W1, gf,
    #[.func (.yield (w.heap.size + 1)) #[] #[], .pointer (some ⟨Bn, 0, none⟩), .pointer (some ⟨Bp, 0, none⟩)], W1, ?_, ?_, fun _ _ => trivial, ?_, fun h => (by cases h), ?_⟩
  · rw [← hW1, hrec]; exact run_enterLoop_outer _ _ _ _ _
  · simp only [resolve, hg]
    simp [go_sem]
  · simp [invoke, go_sem, eg]
  refine (hseq W1 hb1 (w.heap.size + 1) pre0
    (fun pre W => I pre W ∧ W.heap[w.heap.size + 1]? = some (.loop (rec .ready none)) ∧ W.heap[w.heap.size]? = some (.deferred (some [])))
    (fun pre W => Ix pre W ∧ W.heap[w.heap.size + 1]? = some (.loop (rec .done (some .ret))) ∧ W.heap[w.heap.size]? = some (.deferred (some []))) ?_ ?_ ?_ ⟨hI1, hL1, hK1⟩).mono ?_
  · intro s X Y row hs hg' hr
    exact ⟨hI s X Y row hs.1 hg' (fun r e => ⟨by have := (hr r e).1; omega, (hr r e).2⟩), (hg'.block _ (Array.getElem?_eq_some_iff.1 hs.2.1).1 (fun e => by have := (hr _ e.symm).1; omega)).trans hs.2.1,
      (hg'.block _ (Array.getElem?_eq_some_iff.1 hs.2.2).1 (fun e => by have := (hr _ e.symm).1; omega)).trans hs.2.2⟩
  · intro s X Y row hs hg' hr
    exact ⟨hIx s X Y row hs.1 hg' (fun r e => ⟨by have := (hr r e).1; omega, (hr r e).2⟩), (hg'.block _ (Array.getElem?_eq_some_iff.1 hs.2.1).1 (fun e => by have := (hr _ e.symm).1; omega)).trans hs.2.1,
      (hg'.block _ (Array.getElem?_eq_some_iff.1 hs.2.2).1 (fun e => by have := (hr _ e.symm).1; omega)).trans hs.2.2⟩
  · rintro pre x v W ⟨hi, hl, hk⟩ hx hzW hpre
    obtain ⟨a', c, rfl, -, -⟩ := id hx
    have hy := run_yield (P := P) (args := #[.slice a' x.length c]) hl (by rw [hrec]; rfl)
    rw [hrec] at hy
    have hy2 : (Instr.yield (w.heap.size + 1) #[.slice a' x.length c]).run P W = .ok (.round (w.heap.size + 1) fn (a.tmps.setIfInBounds p (.slice a' x.length c)) assign body) W := by
      rw [hy]
      simp
    refine ⟨fn, _, assign, body, hy2, roundIn_of_wpIn trivial (hassign (w.heap.size + 1) a' x.length c W _ ?_)⟩
    clear hy hy2
    have hlt : w.heap.size + 1 < W.heap.size := (Array.getElem?_eq_some_iff.1 hl).1
    refine ⟨_, run_beginRound hl (by rw [hrec]), ?_⟩
    have hl2 : (W.putObj (w.heap.size + 1) (.loop { rec .ready none with state := .busy })).heap[w.heap.size + 1]? = some (.loop { rec .ready none with state := .busy }) := World.putObj_heap_same (by omega)
    have hk2 : (W.putObj (w.heap.size + 1) (.loop { rec .ready none with state := .busy })).heap[w.heap.size]? = some (.deferred (some [])) := (World.putObj_heap_other (by omega)).trans hk
    have hx2 : IsPath (W.putObj (w.heap.size + 1) (.loop { rec .ready none with state := .busy })) (Fq w.heap.size b (W.putObj (w.heap.size + 1) (.loop { rec .ready none with state := .busy }))) (.slice a' x.length c) x :=
      hx.records (grownBy_putObj' W _ _) (fun r e => by cases e; exact ⟨_, hl, rfl⟩) fun k hk => ⟨by have := hk.1; omega, by simpa using hk.2.1, fun e => hk.2.2 ((Ow.congr (World.putObj_heap_other (by omega)) k).1 e)⟩
    refine wpIn_mono (hbody _ pre x a' x.length c _ (by simp; omega) (hI.putObj _ hi (by omega) hl rfl) hx2 hpre) ?_
    rintro e a3 W3 hp
    cases e with
    | normal =>
      obtain ⟨hkp, hi3⟩ := hp
      have hl3 := hkp.recs.same _ _ hl2 rfl
      have hk3 := hkp.recs.same _ _ hk2 rfl
      have hend := run_endRound (P := P) none hl3
      have hlt3 := (Array.getElem?_eq_some_iff.1 hl3).1
      refine ⟨_, _, hend, .inl ⟨rfl, ⟨hI.putObj _ hi3 (by omega) hl3 rfl, ?_, (World.putObj_heap_other (by omega)).trans hk3⟩, ?_⟩⟩
      · rw [World.putObj_heap_same hlt3, hrec]; rfl
      · have : ({ ({ rec .ready none with state := .busy } : Loop) with state := if (none : Option Code).isNone then .ready else .done, pending := none } : Loop) = rec .ready none := by rw [hrec]; rfl
        rw [this]
        exact Kq.back hl hkp (by omega) (by omega) hlt3
    | ret =>
      obtain ⟨hkf, hi3⟩ := hp
      have hl3 := hkf.same _ _ (by omega) hl2 rfl
      have hk3 := hkf.same _ _ (Nat.le_refl _) hk2 rfl
      have hend := run_endRound (P := P) (some .ret) hl3
      have hlt3 := (Array.getElem?_eq_some_iff.1 hl3).1
      refine ⟨_, _, hend, .inr ⟨rfl, ⟨hIx.putObj _ hi3 (by omega) hl3 rfl, ?_, (World.putObj_heap_other (by omega)).trans hk3⟩, ⟨?_, fun i o hB hi ho => ?_⟩⟩⟩
      · rw [World.putObj_heap_same hlt3, hrec]; rfl
      · have h1 := hkf.size
        simp at h1 ⊢
        omega
      · exact (World.putObj_heap_other (by omega)).trans (hkf.same i o (by omega) ((World.putObj_heap_other (by omega)).trans hi) ho)
    | exit id => exact hp.elim
    | goto t => exact hp.elim
    | panic ch => exact hp.elim
    | outgrown => exact hp.elim
  · rintro e W2 ⟨⟨v, rfl⟩, (⟨⟨hi, hl, hk⟩, hkp⟩ | ⟨pre, hi, hl, hk⟩)⟩
    · have hlt := (Array.getElem?_eq_some_iff.1 hl).1
      refine ⟨none, _, by have := run_endLoop (P := P) hl (by rw [hrec]; simp); rw [hrec] at this; exact this, hdone _ _ (Nat.le_refl _) (by simp; omega) (hI.putObj _ hi (by omega) hl rfl) ((World.putObj_heap_other (by omega)).trans hk) ((hk1.trans hkp).put hn hbw (by omega) _)⟩
    · have hlt := (Array.getElem?_eq_some_iff.1 hl).1
      refine ⟨some .ret, _, by have := run_endLoop (P := P) hl (by rw [hrec]; simp); rw [hrec] at this; exact this, hstop _ pre _ (Nat.le_refl _) (by simp; omega) (hIx.putObj _ hi (by omega) hl rfl) ((World.putObj_heap_other (by omega)).trans hk)⟩
end Go.Proofs.YtacgmmpdichlmaaGreat
