/-
  The program's Flat of a document.
  Its conditions: the value reads as a document; the line has at most 1000000000 bytes.
-/
import Derived.Test.YtggbocimapdidaaWordP
namespace Go.Proofs.Ytggbocimapdidaa
open Go.RowKit Go.Shelf
attribute [local go_sem] Oper.semAt_some

/-- A leaf as one line. -/
def lineD (x : Dc) : List UInt8 := if x.kind = 2 then [32] else x.text.data.toList
def lineL (L : List Dc) : List UInt8 := L.flatMap lineD
def hardL (L : List Dc) : Bool := L.any fun x => decide (x.kind = 4)
theorem lineL_snoc (L : List Dc) (x : Dc) : lineL (L ++ [x]) = lineL L ++ lineD x := by simp [lineL]
theorem lineL_prefix {L M : List Dc} (h : L <+: M) : (lineL L).length ≤ (lineL M).length := by
  obtain ⟨r, rfl⟩ := h
  simp [lineL]
theorem hardL_snoc (L : List Dc) (x : Dc) : hardL (L ++ [x]) = (hardL L || decide (x.kind = 4)) := by simp [hardL]
theorem hardL_prefix {L M : List Dc} (h : L <+: M) (hh : hardL L = true) : hardL M = true := by
  obtain ⟨r, rfl⟩ := h
  rw [hardL, List.any_append, ← hardL, hh]
  rfl

theorem results_two {fn : Func} {p q : Tmp} {tmps : Array Value} {W : World} {g g' : Nat} {x y : Value} (hr : fn.results = #[.cell p 9, .cell q 4]) (hp : tmps.getD p undef = .pointer (some ⟨g, 0, none⟩)) (hq : tmps.getD q undef = .pointer (some ⟨g', 0, none⟩)) (h9 : Blk W g 9 #[x]) (h4 : Blk W g' 4 #[y]) :
    (results fn tmps).run Try.prog W = .ok (.tuple #[x, y]) W := by
  have c9 := h9.one.1
  have c4 := h4.one.1
  simp only [Array.getD_eq_getD_getElem?] at hp hq
  simp [results, hr, hp, hq, go_sem, c9, c4]
/-- What Flat hands back. -/
def flatP (L : List Dc) : Value := .tuple #[.string (if hardL L then ⟨#[]⟩ else ⟨(lineL L).toArray⟩), .bool (!hardL L)]

set_option maxHeartbeats 2000000 in
theorem flat_p (d : Dc) (v : Value) (w : World) (h : IsDc w (· < w.heap.size) d v) (hs : (lineL (leavesD d)).length ≤ 1000000000) :
    Calls Try.prog 11 #[v] w fun e w' => e = .returned (flatP (leavesD d)) ∧ Below w.heap.size w w' := by
  obtain ⟨k, s, n, a, m, cap, rfl⟩ := h.form
  have HD := hide h
  refine (callsIn_wide (n := 0)).1 ?_
  refine callsIn_of_wp_marks Try.func11 rfl trivial ?_ rfl
  simp only [Try.ntmps11, List.size_toArray, List.length_cons, List.length_nil, Nat.reduceAdd, Nat.reduceSub, Array.replicate_succ, Array.replicate_zero, List.push_toArray, List.append_toArray, List.nil_append, List.cons_append]
  clear h
  gi_wp2
  refine ⟨trivial, rfl, (callsIn_wide.2 (leaves_any k s n a m cap _)).mono ?_⟩
  rintro e w1 ⟨rfl, rfl⟩
  obtain ⟨W0, hW0⟩ : ∃ W0, ((((w.alloc (.cells #[.int .i64 k, .string s, .int .i64 n, .slice a m cap] 25)).alloc (.cells #[.string ⟨#[]⟩] 9)).alloc (.cells #[.bool false] 4)).alloc (.cells #[.pointer none, .slice none 0 0] 47)).alloc (.cells #[.int .i64 k, .string s, .int .i64 n, .slice a m cap] 25) = W0 := ⟨_, rfl⟩
  have hz0 : W0.heap.size = w.heap.size + 5 := by rw [← hW0]; simp
  have bB : Blk W0 (w.heap.size + 4) 25 #[.int .i64 k, .string s, .int .i64 n, .slice a m cap] := by
    have := Blk.new ((((w.alloc (.cells #[.int .i64 k, .string s, .int .i64 n, .slice a m cap] 25)).alloc (.cells #[.string ⟨#[]⟩] 9)).alloc (.cells #[.bool false] 4)).alloc (.cells #[.pointer none, .slice none 0 0] 47)) 25 #[.int .i64 k, .string s, .int .i64 n, .slice a m cap]
    rw [hW0] at this
    simpa using this
  have bb : Blk W0 (w.heap.size + 3) 47 #[.pointer none, .slice none 0 0] := by
    have := (Blk.new (((w.alloc (.cells #[.int .i64 k, .string s, .int .i64 n, .slice a m cap] 25)).alloc (.cells #[.string ⟨#[]⟩] 9)).alloc (.cells #[.bool false] 4)) 47 #[.pointer none, .slice none 0 0]).alloc (.cells #[.int .i64 k, .string s, .int .i64 n, .slice a m cap] 25)
    rw [hW0] at this
    simpa using this
  have b4 : Blk W0 (w.heap.size + 2) 4 #[.bool false] := by
    have := ((Blk.new ((w.alloc (.cells #[.int .i64 k, .string s, .int .i64 n, .slice a m cap] 25)).alloc (.cells #[.string ⟨#[]⟩] 9)) 4 #[.bool false]).alloc (.cells #[.pointer none, .slice none 0 0] 47)).alloc (.cells #[.int .i64 k, .string s, .int .i64 n, .slice a m cap] 25)
    rw [hW0] at this
    simpa using this
  have b9 : Blk W0 (w.heap.size + 1) 9 #[.string ⟨#[]⟩] := by
    have := (((Blk.new (w.alloc (.cells #[.int .i64 k, .string s, .int .i64 n, .slice a m cap] 25)) 9 #[.string ⟨#[]⟩]).alloc (.cells #[.bool false] 4)).alloc (.cells #[.pointer none, .slice none 0 0] 47)).alloc (.cells #[.int .i64 k, .string s, .int .i64 n, .slice a m cap] 25)
    rw [hW0] at this
    simpa using this
  have hb0 : Below w.heap.size w W0 := by
    rw [← hW0]
    exact (((((Below.refl _ w).alloc (Nat.le_refl _) _).alloc (by simp) _).alloc (by simp; omega) _).alloc (by simp; omega) _).alloc (by simp; omega) _
  have hbu : Lib.IsBuilderF 47 5 w.heap.size (w.heap.size + 3) (Lib.byteCells (lineL [])) W0 := .inl ⟨by omega, _, bb, World.ownsRowF_nil _ _ _ _, by simp [Value.ownBlock]⟩
  have hIH : ∀ Wx, Below W0.heap.size W0 Wx → SeqLeaf Try.prog 37 (w.heap.size + 4) w.heap.size (w.heap.size + 3) (leavesD d) Wx := fun Wx hx => by
    refine leaf_any d w.heap.size (w.heap.size + 3) (w.heap.size + 4) _ _ Wx rfl (bB.below hx bB.lt) (IsDc.keep (fun y hy => ⟨hy, ?_⟩) _ _ HD.out) (by omega) (by have := hx.size; omega)
    exact (hx.block y (by omega)).trans (hb0.block y hy)
  have HIH := hide hIH
  clear hIH bB bb HD
  have hsz : ((((w.alloc (.cells #[.int .i64 k, .string s, .int .i64 n, .slice a m cap] 25)).alloc (.cells #[.string ⟨#[]⟩] 9)).alloc (.cells #[.bool false] 4)).alloc (.cells #[.pointer none, .slice none 0 0] 47)).heap.size = w.heap.size + 4 := by simp
  rw [hW0, hsz]
  clear hsz hW0
  gi_wp2
  refine range_leaf (gf := 37) (B := w.heap.size + 4) (n₀ := w.heap.size) (b := w.heap.size + 3) (L := leavesD d) (pre0 := []) rfl (enters_of Try.func37 (by kernel_rfl) rfl) (by omega) HIH.out
    (fun pre Wx => (Lib.IsBuilderF 47 5 w.heap.size (w.heap.size + 3) (Lib.byteCells (lineL pre)) Wx ∧ Below w.heap.size w Wx) ∧ (hardL pre = false) ∧ Blk Wx (w.heap.size + 1) 9 #[.string ⟨#[]⟩] ∧ Blk Wx (w.heap.size + 2) 4 #[.bool false])
    (fun _ Wx => Below w.heap.size w Wx ∧ hardL (leavesD d) = true ∧ Blk Wx (w.heap.size + 1) 9 #[.string ⟨#[]⟩] ∧ Blk Wx (w.heap.size + 2) 4 #[.bool false])
    (OwnFrom.and (OwnFrom.and (isBuilder_own _ _ _ _ _ _) (ownFrom_below (Nat.le_refl _) (by omega))) (OwnFrom.and (ownFrom_pure _ _) (OwnFrom.and (blk_own (by omega)) (blk_own (by omega)))))
    (OwnFrom.and (ownFrom_below (Nat.le_refl _) (by omega)) (OwnFrom.and (ownFrom_pure _ _) (OwnFrom.and (blk_own (by omega)) (blk_own (by omega)))))
    ⟨⟨hbu, hb0⟩, rfl, b9, b4⟩
    (fun v gx => { tmps := #[.agg #[.int .i64 k, .string s, .int .i64 n, .slice a m cap], .pointer (some ⟨w.heap.size, 0, none⟩), .pointer (some ⟨w.heap.size + 1, 0, none⟩), .pointer (some ⟨w.heap.size + 2, 0, none⟩), .pointer (some ⟨w.heap.size + 3, 0, none⟩), .pointer (some ⟨gx, 0, none⟩), .agg #[.int .i64 k, .string s, .int .i64 n, .slice a m cap], .func (.func 37) #[] #[.pointer (some ⟨w.heap.size + 4, 0, none⟩)], v, undef, undef, undef, undef, undef, undef, undef, undef, undef, undef, undef], defers := [] })
    ?assign ?body ?done ?stop
  case assign =>
    intro l2 k2 s2 n2 a2 m2 c2 Wx K hK
    gi_wp2
    exact hK
  case body =>
    rintro l2 pre k2 s2 n2 ks2 a2 m2 c2 gx Wx hgx hgx2 ⟨⟨hbu2, hB2⟩, hnh, x9, x4⟩ hb2 h52 hkk2 hs2 hpre
    have HN := hide hnh
    have HP := hide hpre
    obtain ⟨p0, p1, p2, p3⟩ := hb2.four
    have hl := lineL_prefix hpre
    rw [lineL_snoc, List.length_append, List.nil_append] at hl
    clear hnh hpre
    by_cases h4 : k2 = 4
    · subst h4
      have hh : hardL (leavesD d) = true := by
        have := hardL_prefix HP.out (by rw [hardL_snoc]; simp [Dc.kind])
        simpa using this
      have HH := hide hh
      have q9 := x9.one
      have q4 := x4.one
      obtain ⟨q90, q91⟩ := q9
      obtain ⟨q40, q41⟩ := q4
      clear hl hh
      gi_wp2
      exact ⟨((KeepsOthers.setCell _ _ _).trans (KeepsOthers.setCell _ _ _)).from _, (hB2.setCell (p := ⟨w.heap.size + 1, 0, none⟩) (by show w.heap.size ≤ w.heap.size + 1; omega) _).setCell (p := ⟨w.heap.size + 2, 0, none⟩) (by show w.heap.size ≤ w.heap.size + 2; omega) _, HH.out,
        (x9.set_ 0 _).far (by show w.heap.size + 1 ≠ w.heap.size + 2; omega) _, (x4.far (by show w.heap.size + 2 ≠ w.heap.size + 1; omega) _).set_ 0 _⟩
    · have e4 : (k2 == 4) = false := beq_eq_false_iff_ne.2 h4
      have HN2 := hide (show hardL (pre ++ [.mk k2 s2 n2 ks2]) = false by rw [hardL_snoc, HN.out]; simp [Dc.kind, h4])
      clear h4
      by_cases h2 : k2 = 2
      · subst h2
        have HL := hide (show lineD (.mk 2 s2 n2 ks2) = [32] from rfl)
        rw [HL.out] at hl
        have HW := hide (byte_any w.heap.size (w.heap.size + 3) _ 32 Wx hbu2 (by rw [Lib.byteCells_length]; simp at hl; omega) hB2.size)
        clear hl
        gi_wp2
        refine ⟨trivial, rfl, (CallsIn.inRound l2 (callsIn_wide.2 (unhide HW))).mono ?_⟩
        rintro e W' ⟨rfl, hbu3, hB3, hO3⟩
        have hK := Kp.of_writer hbu2 hB3 hO3
        gi_wp2
        refine ⟨hK, ⟨?_, hB2.trans hB3⟩, HN2.out, hK.blk x9 (by omega) (by decide), hK.blk x4 (by omega) (by decide)⟩
        rw [lineL_snoc, HL.out, Lib.byteCells_append]
        exact hbu3
      · have e2 : (k2 == 2) = false := beq_eq_false_iff_ne.2 h2
        have HL := hide (show lineD (.mk k2 s2 n2 ks2) = s2.data.toList by rw [lineD, if_neg (by exact h2)]; rfl)
        rw [HL.out] at hl
        have hss : s2.size = s2.data.toList.length := by simp
        have HW := hide (write_any w.heap.size (w.heap.size + 3) _ s2 Wx hbu2 (by rw [Lib.byteCells_length, hss]; omega) hB2.size)
        clear hl hss h2
        gi_wp2
        refine ⟨trivial, rfl, (CallsIn.inRound l2 (callsIn_wide.2 (unhide HW))).mono ?_⟩
        rintro e W' ⟨rfl, hbu3, hB3, hO3⟩
        have hK := Kp.of_writer hbu2 hB3 hO3
        gi_wp2
        refine ⟨hK, ⟨?_, hB2.trans hB3⟩, HN2.out, hK.blk x9 (by omega) (by decide), hK.blk x4 (by omega) (by decide)⟩
        rw [lineL_snoc, HL.out, Lib.byteCells_append]
        exact hbu3
  case done =>
    rintro D Wx hD hDx ⟨⟨hbu2, hB2⟩, hnh, x9, x4⟩ hdef hkx
    have HN := hide (show hardL (leavesD d) = false by simpa using hnh)
    clear hnh
    gi_wp2
    refine ⟨trivial, rfl, (callsIn_wide.2 (string_any w.heap.size (w.heap.size + 3) (lineL (leavesD d)) Wx (by simpa using hbu2) hB2.size)).mono ?_⟩
    rintro e W' ⟨rfl, hbu3, hB3, hO3⟩
    have hK := Kp.of_writer hbu2 hB3 hO3
    have hdef' : W'.heap[D]? = some (.deferred (some [])) := hK.recs.same D _ hdef rfl
    have y9 := hK.blk x9 (by omega) (by decide)
    have y4 := hK.blk x4 (by omega) (by decide)
    have hB4 := hB2.trans hB3
    obtain ⟨q90, q91⟩ := y9.one
    obtain ⟨q40, q41⟩ := y4.one
    have HD' := hide hdef'
    clear hdef hdef' hK x9 x4
    gi_wp2
    have z9 : Blk ((W'.setCell ⟨w.heap.size + 1, 0, none⟩ (.string ⟨(lineL (leavesD d)).toArray⟩)).setCell ⟨w.heap.size + 2, 0, none⟩ (.bool true)) (w.heap.size + 1) 9 #[.string ⟨(lineL (leavesD d)).toArray⟩] := (y9.set_ 0 _).far (by show w.heap.size + 1 ≠ w.heap.size + 2; omega) _
    have z4 : Blk ((W'.setCell ⟨w.heap.size + 1, 0, none⟩ (.string ⟨(lineL (leavesD d)).toArray⟩)).setCell ⟨w.heap.size + 2, 0, none⟩ (.bool true)) (w.heap.size + 2) 4 #[.bool true] := (y4.far (by show w.heap.size + 2 ≠ w.heap.size + 1; omega) _).set_ 0 _
    have hB5 : Below w.heap.size w ((W'.setCell ⟨w.heap.size + 1, 0, none⟩ (.string ⟨(lineL (leavesD d)).toArray⟩)).setCell ⟨w.heap.size + 2, 0, none⟩ (.bool true)) := (hB4.setCell (p := ⟨w.heap.size + 1, 0, none⟩) (by show w.heap.size ≤ w.heap.size + 1; omega) _).setCell (p := ⟨w.heap.size + 2, 0, none⟩) (by show w.heap.size ≤ w.heap.size + 2; omega) _
    have hdd : ((W'.setCell ⟨w.heap.size + 1, 0, none⟩ (.string ⟨(lineL (leavesD d)).toArray⟩)).setCell ⟨w.heap.size + 2, 0, none⟩ (.bool true)).heap[D]? = some (.deferred (some [])) := (Below.heap_setCell _ ⟨w.heap.size + 2, 0, none⟩ _ D (by show D ≠ w.heap.size + 2; omega)).trans ((Below.heap_setCell _ ⟨w.heap.size + 1, 0, none⟩ _ D (by show D ≠ w.heap.size + 1; omega)).trans HD'.out)
    refine ⟨by simp, .inl ⟨_, _, rfl, run_takeDeferred hdd, ?_⟩⟩
    refine ⟨_, results_two rfl rfl rfl ((World.putObj_heap_other (by omega)).trans z9) ((World.putObj_heap_other (by omega)).trans z4), ?_, hB5.grown (grownBy_putObj' _ _ _) (by have := hB5.size; omega) (fun r hr => by cases hr; omega)⟩
    rw [flatP, HN.out]
    rfl
  case stop =>
    rintro D pre Wx hD hDx ⟨hB2, hh, x9, x4⟩ hdef
    have HN := hide hh
    clear hh
    gi_wp2
    refine ⟨by simp, .inl ⟨_, _, rfl, run_takeDeferred hdef, ?_⟩⟩
    refine ⟨_, results_two rfl rfl rfl ((World.putObj_heap_other (by omega)).trans x9) ((World.putObj_heap_other (by omega)).trans x4), ?_, hB2.grown (grownBy_putObj' _ _ _) (by have := hB2.size; omega) (fun r hr => by cases hr; omega)⟩
    rw [flatP, HN.out]
    rfl
end Go.Proofs.Ytggbocimapdidaa
