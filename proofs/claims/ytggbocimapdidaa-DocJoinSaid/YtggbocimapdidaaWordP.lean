/-
  The program's Words of a document.
  Its conditions: the value reads as a document; the texts together have at most 1000000000 bytes.
-/
import Derived.Test.YtggbocimapdidaaLeaf
import Derived.Test.YtggbocimapdidaaBuild
namespace Go.Proofs.Ytggbocimapdidaa
open Go.RowKit Go.Shelf
attribute [local go_sem] Oper.semAt_some

def Dc.text : Dc → ByteArray
  | .mk _ s _ _ => s
/-- The texts of some leaves, one behind the other. -/
def textsL (L : List Dc) : List UInt8 := L.flatMap fun x => x.text.data.toList
theorem textsL_snoc (L : List Dc) (x : Dc) : textsL (L ++ [x]) = textsL L ++ x.text.data.toList := by simp [textsL]
theorem textsL_prefix {L M : List Dc} (h : L <+: M) : (textsL L).length ≤ (textsL M).length := by
  obtain ⟨r, rfl⟩ := h
  simp [textsL]

theorem isBuilder_own {β : Type} (T e B b B0 : Nat) (f : β → List Value) : OwnFrom B0 (fun s W => Lib.IsBuilderF T e B b (f s) W) := by
  have key : ∀ (p : Value) (s : β) (Y Z : World) (row : Option Nat), Lib.BuilderAtF T e B b p (f s) Y → Y.grownBy Z row → (∀ r, row = some r → B0 ≤ r ∧ ∃ o : Obj, Y.heap[r]? = some o ∧ o.isCells = false) → Lib.BuilderAtF T e B b p (f s) Z := by
    intro p s Y Z row h hg hr
    have hkeep : ∀ (k : Nat) (cs : Array Value) (t : TypeId) (fz : Nat × Nat), Y.heap[k]? = some (.cells cs t fz) → Z.heap[k]? = some (.cells cs t fz) := by
      intro k cs t fz hk
      refine (hg.block k (Array.getElem?_eq_some_iff.1 hk).1 (fun e => ?_)).trans hk
      obtain ⟨_, o, ho, hc⟩ := hr k e.symm
      rw [hk] at ho
      cases ho
      cases hc
    obtain ⟨hB, v, hb, hown, hne⟩ := h
    refine ⟨hB, v, hkeep _ _ _ _ hb, ⟨hown.1, ?_⟩, hne⟩
    rcases hown.2 with hn | ⟨g, cap, cur, fz, hv, hbg, hgg, rest⟩
    · exact .inl hn
    · exact .inr ⟨g, cap, cur, fz, hv, hbg, hkeep _ _ _ _ hgg, rest⟩
  intro s Y Z row hs hg hr
  rcases hs with hs | hs
  · exact .inl (key _ s Y Z row hs hg hr)
  · exact .inr (key _ s Y Z row hs hg hr)
theorem builder_block {T e B b : Nat} {bs : List Value} {W : World} (h : Lib.IsBuilderF T e B b bs W) : ∃ cs, W.heap[b]? = some (.cells cs T (0, 0)) := by
  rcases h with ⟨_, v, hb, _⟩ | ⟨_, v, hb, _⟩
  · exact ⟨_, hb⟩
  · exact ⟨_, hb⟩
/-- A writer's word is a round's word. -/
theorem Kp.of_writer {n₀ b : Nat} {bs : List Value} {W W' : World} (hI : Lib.IsBuilderF 47 5 n₀ b bs W) (hB : Below n₀ W W') (hO : Lib.OthersKept 5 (some b) W W') : Kp n₀ b W W' := by
  refine ⟨hO, hB, ⟨hB.size, fun k o hk ho => hO k o hk (fun e => ?_) (fun c fz e => ?_)⟩⟩
  · cases e
    obtain ⟨cs, hb⟩ := builder_block hI
    rw [hb] at hk
    cases hk
    cases ho
  · subst e
    cases ho

set_option maxHeartbeats 1000000 in
theorem words_p (d : Dc) (v : Value) (w : World) (h : IsDc w (· < w.heap.size) d v) (hs : (textsL (leavesD d)).length ≤ 1000000000) :
    Calls Try.prog 13 #[v] w fun e w' => e = .returned (.string ⟨(textsL (leavesD d)).toArray⟩) ∧ Below w.heap.size w w' := by
  obtain ⟨k, s, n, a, m, cap, rfl⟩ := h.form
  have HD := hide h
  refine (callsIn_wide (n := 0)).1 ?_
  refine callsIn_of_wp_marks Try.func13 rfl trivial ?_ rfl
  simp only [Try.ntmps13, List.size_toArray, List.length_cons, List.length_nil, Nat.reduceAdd, Nat.reduceSub, Array.replicate_succ, Array.replicate_zero, List.push_toArray, List.append_toArray, List.nil_append, List.cons_append]
  clear h
  gi_wp2
  refine ⟨trivial, rfl, (callsIn_wide.2 (leaves_any k s n a m cap _)).mono ?_⟩
  rintro e w1 ⟨rfl, rfl⟩
  obtain ⟨W0, hW0⟩ : ∃ W0, ((w.alloc (.cells #[.int .i64 k, .string s, .int .i64 n, .slice a m cap] 25)).alloc (.cells #[.pointer none, .slice none 0 0] 47)).alloc (.cells #[.int .i64 k, .string s, .int .i64 n, .slice a m cap] 25) = W0 := ⟨_, rfl⟩
  have hz0 : W0.heap.size = w.heap.size + 3 := by rw [← hW0]; simp
  have bB : Blk W0 (w.heap.size + 2) 25 #[.int .i64 k, .string s, .int .i64 n, .slice a m cap] := by
    have := Blk.new ((w.alloc (.cells #[.int .i64 k, .string s, .int .i64 n, .slice a m cap] 25)).alloc (.cells #[.pointer none, .slice none 0 0] 47)) 25 #[.int .i64 k, .string s, .int .i64 n, .slice a m cap]
    rw [hW0] at this
    simpa using this
  have bb : Blk W0 (w.heap.size + 1) 47 #[.pointer none, .slice none 0 0] := by
    have := (Blk.new (w.alloc (.cells #[.int .i64 k, .string s, .int .i64 n, .slice a m cap] 25)) 47 #[.pointer none, .slice none 0 0]).alloc (.cells #[.int .i64 k, .string s, .int .i64 n, .slice a m cap] 25)
    rw [hW0] at this
    simpa using this
  have hb0 : Below w.heap.size w W0 := by
    rw [← hW0]
    exact (((Below.refl _ w).alloc (Nat.le_refl _) _).alloc (by simp) _).alloc (by simp; omega) _
  have hbu : Lib.IsBuilderF 47 5 w.heap.size (w.heap.size + 1) (Lib.byteCells (textsL [])) W0 := .inl ⟨by omega, _, bb, World.ownsRowF_nil _ _ _ _, by simp [Value.ownBlock]⟩
  have hIH : ∀ Wx, Below W0.heap.size W0 Wx → SeqLeaf Try.prog 37 (w.heap.size + 2) w.heap.size (w.heap.size + 1) (leavesD d) Wx := fun Wx hx => by
    refine leaf_any d w.heap.size (w.heap.size + 1) (w.heap.size + 2) _ _ Wx rfl (bB.below hx bB.lt) (IsDc.keep (fun y hy => ⟨hy, ?_⟩) _ _ HD.out) (by omega) (by have := hx.size; omega)
    exact (hx.block y (by omega)).trans (hb0.block y hy)
  have HIH := hide hIH
  clear hIH bB bb HD
  have hsz : ((w.alloc (.cells #[.int .i64 k, .string s, .int .i64 n, .slice a m cap] 25)).alloc (.cells #[.pointer none, .slice none 0 0] 47)).heap.size = w.heap.size + 2 := by simp
  rw [hW0, hsz]
  clear hsz hW0
  gi_wp2
  refine range_leaf (gf := 37) (B := w.heap.size + 2) (n₀ := w.heap.size) (b := w.heap.size + 1) (L := leavesD d) (pre0 := []) rfl (enters_of Try.func37 (by kernel_rfl) rfl) (by omega) HIH.out
    (fun pre Wx => Lib.IsBuilderF 47 5 w.heap.size (w.heap.size + 1) (Lib.byteCells (textsL pre)) Wx ∧ Below w.heap.size w Wx)
    (fun _ _ => False)
    (OwnFrom.and (isBuilder_own _ _ _ _ _ _) (ownFrom_below (Nat.le_refl _) (by omega)))
    (fun _ _ _ _ hs _ _ => hs)
    ⟨hbu, hb0⟩
    (fun v gx => { tmps := #[.agg #[.int .i64 k, .string s, .int .i64 n, .slice a m cap], .pointer (some ⟨w.heap.size, 0, none⟩), .string ⟨#[]⟩, .pointer (some ⟨w.heap.size + 1, 0, none⟩), .pointer (some ⟨gx, 0, none⟩), .agg #[.int .i64 k, .string s, .int .i64 n, .slice a m cap], .func (.func 37) #[] #[.pointer (some ⟨w.heap.size + 2, 0, none⟩)], v, undef, undef, undef, undef], defers := [] })
    ?assign ?body ?done ?stop
  case assign =>
    intro l2 k2 s2 n2 a2 m2 c2 Wx K hK
    gi_wp2
    exact hK
  case body =>
    rintro l2 pre k2 s2 n2 ks2 a2 m2 c2 gx Wx hgx hgx2 ⟨hbu2, hB2⟩ hb2 h52 hkk2 hs2 hpre
    obtain ⟨p0, p1, p2, p3⟩ := hb2.four
    have hl := textsL_prefix hpre
    rw [textsL_snoc, List.length_append] at hl
    have hss : s2.size = s2.data.toList.length := by simp
    have hl2 : (Lib.byteCells (textsL pre)).length + s2.size ≤ 140737488355328 := by
      rw [Lib.byteCells_length, hss]
      simp only [Dc.text, List.nil_append] at hl
      omega
    have HW := hide (write_any w.heap.size (w.heap.size + 1) _ s2 Wx hbu2 hl2 hB2.size)
    clear hl hss hl2
    gi_wp2
    refine ⟨trivial, rfl, (CallsIn.inRound l2 (callsIn_wide.2 (unhide HW))).mono ?_⟩
    rintro e W' ⟨rfl, hbu3, hB3, hO3⟩
    gi_wp2
    refine ⟨Kp.of_writer hbu2 hB3 hO3, ?_, hB2.trans hB3⟩
    rw [textsL_snoc, Lib.byteCells_append]
    exact hbu3
  case done =>
    rintro D Wx hD hDx ⟨hbu2, hB2⟩ hdef hkx
    gi_wp2
    refine ⟨trivial, rfl, (callsIn_wide.2 (string_any w.heap.size (w.heap.size + 1) (textsL (leavesD d)) Wx (by simpa using hbu2) hB2.size)).mono ?_⟩
    rintro e W' ⟨rfl, hbu3, hB3, hO3⟩
    have hdef' : W'.heap[D]? = some (.deferred (some [])) := (Kp.of_writer hbu2 hB3 hO3).recs.same D _ hdef rfl
    gi_wp2
    refine ⟨by simp, .inl ⟨_, _, rfl, run_takeDeferred hdef', ?_⟩⟩
    exact ⟨_, results_tmp rfl _ _ _, rfl, (hB2.trans hB3).grown (grownBy_putObj' _ _ _) (by have := (hB2.trans hB3).size; omega) (fun r hr => by cases hr; omega)⟩
  case stop =>
    rintro D pre Wx hD hDx h
    exact h.elim
end Go.Proofs.Ytggbocimapdidaa
