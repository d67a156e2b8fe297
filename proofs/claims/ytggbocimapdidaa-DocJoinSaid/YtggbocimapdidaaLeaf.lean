/-
  The program's iterator over the leaves of a document: its contract.
  Its conditions: the value reads as a document, in blocks that the loop's body keeps.
-/
import Derived.Test.YtggbocimapdidaaSeq
namespace Go.Proofs.Ytggbocimapdidaa
open Go.RowKit Go.Shelf
attribute [local go_sem] Oper.semAt_some

mutual
def leavesD : Dc → List Dc
  | .mk k s n ks => if k < 5 then [.mk k s n ks] else leavesDs ks
def leavesDs : Dcs → List Dc
  | .nil => []
  | .cons d r => leavesD d ++ leavesDs r
end
def leavesL : List Dc → List Dc
  | [] => []
  | d :: r => leavesD d ++ leavesL r
theorem leavesDs_L : ∀ ks : Dcs, leavesDs ks = leavesL ks.toL
  | .nil => by rw [leavesDs, Dcs.toL, leavesL]
  | .cons d r => by rw [leavesDs, Dcs.toL, leavesL, leavesDs_L r]
theorem leavesL_append : ∀ a b : List Dc, leavesL (a ++ b) = leavesL a ++ leavesL b
  | [], b => rfl
  | d :: a, b => by rw [List.cons_append, leavesL, leavesL, leavesL_append a b, List.append_assoc]
theorem leavesL_take {l : List Dc} {q : Nat} (h : q < l.length) : leavesL (l.take (q + 1)) = leavesL (l.take q) ++ leavesD l[q] := by
  rw [List.take_succ_eq_append_getElem h, leavesL_append, leavesL, leavesL, List.append_nil]

def marks (Ds : List Nat) : List Deferred := Ds.map fun D => { target := .collected D, args := #[] }

/-- A function that hands back nothing leaves, its marks met one by one. -/
theorem leave_marks {P : Program} {fn : Func} (hr : fn.results = #[]) {R : World → Prop} {B : Nat} (hR : ∀ W D, R W → B ≤ D → W.heap[D]? = some (.deferred (some [])) → R (W.putObj D (.deferred none))) (tmps : Array Value) :
    ∀ (Ds : List Nat) (W : World), Ds.Nodup → (∀ D ∈ Ds, B ≤ D ∧ W.heap[D]? = some (.deferred (some []))) → R W → LeavesInM Fence.wide 0 P fn tmps (fun e W' => (∃ r, e = .returned r) ∧ R W') (marks Ds) .returning W
  | [], W, _, _, h => ⟨_, results_none hr tmps P W, ⟨_, rfl⟩, h⟩
  | D :: Ds, W, hn, hD, h => by
    have hd := hD D (List.mem_cons_self ..)
    rw [List.nodup_cons] at hn
    refine ⟨by simp, .inl ⟨_, _, rfl, run_takeDeferred hd.2, leave_marks hr hR tmps Ds _ hn.2 (fun E hE => ?_) (hR W D h hd.1 hd.2)⟩⟩
    have he := hD E (List.mem_cons_of_mem _ hE)
    exact ⟨he.1, (World.putObj_heap_other (fun e => hn.1 (by rw [← e]; exact hE))).trans he.2⟩

theorem leaves_any (k : Int) (s : ByteArray) (n : Int) (a : Option Addr) (m c : Nat) (w : World) : Calls Try.prog 25 #[.agg #[.int .i64 k, .string s, .int .i64 n, .slice a m c]] w fun e w' => e = .returned (.func (.func 37) #[] #[.pointer (some ⟨w.heap.size, 0, none⟩)]) ∧ w' = w.alloc (.cells #[.int .i64 k, .string s, .int .i64 n, .slice a m c] 25) := by
  go_enter Try.func25, Try.ntmps25
  go_wp2_with fail
  go_ret
  exact ⟨rfl, rfl⟩

theorem Kp.own {β : Type} {n₀ b : Nat} {X : World} {B : Nat} (hn : n₀ ≤ X.heap.size) (hB : X.heap.size ≤ B) : OwnFrom B (fun (_ : β) W => Kp n₀ b X W) := fun _ Y Z row hs hg hr =>
  ⟨fun k x hk hb hx => by
      have h1 := hs.others k x hk hb hx
      have h2 := (Array.getElem?_eq_some_iff.1 hk).1
      exact (hg.block k (Array.getElem?_eq_some_iff.1 h1).1 (fun e => by have := (hr k e.symm).1; omega)).trans h1,
    hs.below.grown hg (Nat.le_trans hn hs.below.size) (fun r e => by have := (hr r e).1; omega),
    ⟨Nat.le_trans hs.recs.size hg.size, fun k x hk hx => by
      have h1 := hs.recs.same k x hk hx
      have h2 := (Array.getElem?_eq_some_iff.1 hk).1
      exact (hg.block k (Array.getElem?_eq_some_iff.1 h1).1 (fun e => by have := (hr k e.symm).1; omega)).trans h1⟩⟩
theorem blk_own {β : Type} {g B : Nat} {t : TypeId} {cs : Array Value} (hg : g < B) : OwnFrom B (fun (_ : β) W => Blk W g t cs) := fun _ Y Z row hs hgr hr =>
  (hgr.block g hs.lt (fun e => by have := (hr g e.symm).1; omega)).trans hs
/-- The marks' blocks are open. -/
def Open_ (B : Nat) (Ds : List Nat) (W : World) : Prop := ∀ D ∈ Ds, B ≤ D ∧ D < W.heap.size ∧ W.heap[D]? = some (.deferred (some []))
theorem Open_.own {β : Type} {B B' : Nat} {Ds : List Nat} (h : ∀ D ∈ Ds, D < B') : OwnFrom B' (fun (_ : β) W => Open_ B Ds W) := fun _ Y Z row hs hg hr D hD => by
  obtain ⟨h1, h2, h3⟩ := hs D hD
  exact ⟨h1, Nat.lt_of_lt_of_le h2 hg.size, (hg.block D h2 (fun e => by have := (hr D e.symm).1; have := h D hD; omega)).trans h3⟩
theorem Open_.recs {B : Nat} {Ds : List Nat} {W W' : World} (h : Open_ B Ds W) (hk : KeepsFrom B W W') : Open_ B Ds W' := fun D hD => by
  obtain ⟨h1, h2, h3⟩ := h D hD
  exact ⟨h1, Nat.lt_of_lt_of_le h2 hk.size, hk.same D _ h1 h3 rfl⟩
theorem leavesL_prefix {l : List Dc} {q : Nat} (h : q < l.length) (pre0 : List Dc) : (pre0 ++ leavesL (l.take q)) ++ leavesD l[q] <+: pre0 ++ leavesL l := by
  rw [List.append_assoc, ← leavesL_take h]
  refine ⟨leavesL (l.drop (q + 1)), ?_⟩
  rw [List.append_assoc, ← leavesL_append, List.take_append_drop]

def LeafOk (d : Dc) : Prop := ∀ (n₀ b B : Nat) (v : Value) (cs : Array Value) (W : World), v = .agg cs → Blk W B 25 cs → IsDc W (· < n₀) d v → n₀ ≤ b → b < W.heap.size → SeqLeaf Try.prog 37 B n₀ b (leavesD d) W

set_option maxHeartbeats 2000000 in
theorem leaf_any (d : Dc) : LeafOk d := by
  refine Dc.ind_ (P := LeafOk) ?_ d
  intro k s n ks IH n₀ b B v cs W hv hB hD hn hb l pre0 J Jx hJ hJx hY h0
  obtain ⟨x, rfl, hk, hnn, hs, hsl⟩ := hD.split
  obtain rfl : cs = #[.int .i64 k, .string s, .int .i64 n, x] := by cases hv; rfl
  have HI := hide IH
  have hn0 : n₀ ≤ W.heap.size := by omega
  obtain ⟨a, cap, rfl, hl, hks⟩ := hsl
  obtain ⟨b0, b1, b2, b3⟩ := hB.four
  clear IH hv
  by_cases h5 : k < 5
  · have HL := hide (show leavesD (.mk k s n ks) = [.mk k s n ks] by rw [leavesD, if_pos h5])
    rw [HL.out] at hY ⊢
    obtain ⟨W1, hW1⟩ : ∃ W1, W.alloc (.cells #[.func (.yield l) #[] #[]] 27) = W1 := ⟨_, rfl⟩
    have hJ1 : J pre0 W1 := hW1 ▸ hJ.alloc _ h0
    have hk1 : Kp n₀ b W W1 := hW1 ▸ (Kp.refl n₀ b W).alloc hn0 _
    obtain ⟨fn, tmps, assign, body, hy, hR⟩ := hY pre0 (.mk k s n ks) (.agg #[.int .i64 k, .string s, .int .i64 n, .slice a ks.toL.length cap]) W1 hJ1 ⟨k, s, n, ks, a, _, cap, rfl, rfl, h5, hk, hs⟩ (List.prefix_refl _)
    have bX : Blk W1 W.heap.size 27 #[.func (.yield l) #[] #[]] := hW1 ▸ Blk.new W 27 _
    have x0 := bX.one.1
    have hB1 : Blk W1 B 25 #[.int .i64 k, .string s, .int .i64 n, .slice a ks.toL.length cap] := hW1 ▸ hB.alloc _
    obtain ⟨c0, c1, c2, c3⟩ := hB1.four
    clear hY h0 hB1 bX hB
    refine callsIn_of_wp_marks Try.func37 rfl trivial ?_ rfl
    simp only [Try.ntmps37, List.size_toArray, List.length_cons, List.length_nil, Nat.reduceAdd, Nat.reduceSub, Array.replicate_succ, Array.replicate_zero, List.push_toArray, List.append_toArray, List.nil_append, List.cons_append]
    gi_wp2
    refine ⟨rfl, hR.mono ?_⟩
    rintro e W' (⟨rfl, hJ', hk'⟩ | ⟨rfl, hJx', -⟩)
    · gi_wp2
      exact ⟨_, results_none rfl _ _ _, ⟨_, rfl⟩, Or.inl ⟨hJ', hk1.trans hk'⟩⟩
    · gi_wp2
      exact ⟨_, results_none rfl _ _ _, ⟨_, rfl⟩, Or.inr ⟨_, hJx'⟩⟩
  · have HL := hide (show leavesD (.mk k s n ks) = leavesL ks.toL by rw [leavesD, if_neg h5, leavesDs_L])
    rw [HL.out] at hY ⊢
    have HY := hide hY
    have HH := hide h0
    have HD := hide hD
    obtain ⟨W1, hW1⟩ : ∃ W1, W.alloc (.cells #[.func (.yield l) #[] #[]] 27) = W1 := ⟨_, rfl⟩
    have hJ1 : J pre0 W1 := hW1 ▸ hJ.alloc _ h0
    have hk1 : Kp n₀ b W W1 := hW1 ▸ (Kp.refl n₀ b W).alloc hn0 _
    have bX : Blk W1 W.heap.size 27 #[.func (.yield l) #[] #[]] := hW1 ▸ Blk.new W 27 _
    have hB1 : Blk W1 B 25 #[.int .i64 k, .string s, .int .i64 n, .slice a ks.toL.length cap] := hW1 ▸ hB.alloc _
    obtain ⟨c0, c1, c2, c3⟩ := hB1.four
    have HX := hide bX
    clear hY h0 hB1 bX hB b0 b1 b2 b3 hD
    refine callsIn_of_wp_marks Try.func37 rfl trivial ?_ rfl
    simp only [Try.ntmps37, List.size_toArray, List.length_cons, List.length_nil, Nat.reduceAdd, Nat.reduceSub, Array.replicate_succ, Array.replicate_zero, List.push_toArray, List.append_toArray, List.nil_append, List.cons_append]
    gi_wp2
    clear c0 c1 c2 c3
    simp only [maxLen] at hl
    refine wpIn_loop (fun a' wr => ∃ (q : Nat) (Ds : List Nat) (u3 u4 u5 u9 u10 u11 u16 u17 u18 u19 u20 u21 u22 u23 u24 u25 u26 : Value), a' = { tmps := #[.func (.yield l) #[] #[], .pointer (some ⟨B, 0, none⟩), .pointer (some ⟨W.heap.size, 0, none⟩), u3, u4, u5, .pointer (some ⟨B, 0, none⟩), .int .i64 k, .bool false, u9, u10, u11, .pointer (some ⟨B, 3, none⟩), .slice a ks.toL.length cap, .int .i64 ks.toL.length, .int .i64 q, u16, u17, u18, u19, u20, u21, u22, u23, u24, u25, u26], defers := marks Ds } ∧
        q ≤ ks.toL.length ∧ J (pre0 ++ leavesL (ks.toL.take q)) wr ∧ Kp n₀ b W wr ∧ Ds.Nodup ∧ Open_ W.heap.size Ds wr ∧ Blk wr W.heap.size 27 #[.func (.yield l) #[] #[]]) (fun a' _ => ks.toL.length - (intOf (a'.tmps.getD 15 undef)).toNat) ?start ?round
    case start => exact ⟨0, [], _, _, _, _, _, _, _, _, _, _, _, _, _, _, _, _, _, rfl, Nat.zero_le _, by simpa [leavesL] using hJ1, hk1, List.nodup_nil, fun D h => (by simp at h), HX.out⟩
    case round =>
      rintro a' wr ⟨q, Ds, u3, u4, u5, u9, u10, u11, u16, u17, u18, u19, u20, u21, u22, u23, u24, u25, u26, rfl, hq, hJq, hkq, hnd, hDs, hbx⟩
      have HJ := hide hJq
      have HDs := hide hDs
      have HBX := hide hbx
      have HND := hide hnd
      have hszq := hkq.below.size
      have hszr := hkq.recs.size
      clear hJq hDs hbx hnd hW1 hJ1 hk1 HX
      by_cases hlt : q < ks.toL.length
      · obtain ⟨bk, o, rfl, hbk, hkk⟩ := hks (by omega)
        obtain ⟨c0, c1, c2, c3, g0, g1, g2, g3, hc⟩ := hkk.get (k := q) (d := ks.toL[q]) (by rw [Dcs.toL_ofL]; exact List.getElem?_eq_getElem hlt)
        have hw : ∀ i, wr.cell? ⟨bk, i, none⟩ = W.cell? ⟨bk, i, none⟩ := fun i => hkq.below.cell (p := ⟨bk, i, none⟩) hbk
        rw [← hw] at g0 g1 g2 g3
        have HC := hide hc
        obtain ⟨k', s', n', a', m', cap', hv⟩ := hc.form
        simp only [Value.agg.injEq, Array.mk.injEq, List.cons.injEq, and_true] at hv
        obtain ⟨rfl, rfl, rfl, rfl⟩ := hv
        clear hw hc hkk
        gi_wp2
        refine ⟨trivial, rfl, (callsIn_wide.2 (leaves_any k' s' n' a' m' cap' _)).mono ?_⟩
        rintro e w1 ⟨rfl, rfl⟩
        clear g0 g1 g2 g3
        obtain ⟨W2, hW2⟩ : ∃ W2, wr.alloc (.cells #[.int .i64 k', .string s', .int .i64 n', .slice a' m' cap'] 25) = W2 := ⟨_, rfl⟩
        have hz2 : W2.heap.size = wr.heap.size + 1 := by rw [← hW2]; simp
        rw [hW2, hz2]
        obtain ⟨W3, hW3⟩ : ∃ W3, W2.alloc (.cells #[.int .i64 k', .string s', .int .i64 n', .slice a' m' cap'] 25) = W3 := ⟨_, rfl⟩
        have hz3 : W3.heap.size = wr.heap.size + 2 := by rw [← hW3]; simp; omega
        have bB3 : Blk W3 (wr.heap.size + 1) 25 #[.int .i64 k', .string s', .int .i64 n', .slice a' m' cap'] := by
          have := Blk.new W2 25 #[.int .i64 k', .string s', .int .i64 n', .slice a' m' cap']
          rw [hz2, hW3] at this
          exact this
        have hk3 : Kp n₀ b wr W3 := by
          rw [← hW3, ← hW2]
          exact ((Kp.refl n₀ b wr).alloc (by omega) _).alloc (by omega) _
        have hJ3 : J (pre0 ++ leavesL (ks.toL.take q)) W3 := by rw [← hW3, ← hW2]; exact hJ.alloc _ (hJ.alloc _ HJ.out)
        have hx3 : Blk W3 W.heap.size 27 #[.func (.yield l) #[] #[]] := by rw [← hW3, ← hW2]; exact (HBX.out.alloc _).alloc _
        have hD3 : Open_ W.heap.size Ds W3 := HDs.out.recs (hk3.recs.from _)
        have hDlt : ∀ D ∈ Ds, D < W3.heap.size := fun D h => (hD3 D h).2.1
        have hkW3 : Kp n₀ b W W3 := hkq.trans hk3
        rw [hW3]
        clear hW2 hW3 HBX HDs HJ hkq
        gi_wp2
        have hIH : ∀ Wx, Below W3.heap.size W3 Wx → SeqLeaf Try.prog 37 (wr.heap.size + 1) n₀ b (leavesD ks.toL[q]) Wx := fun Wx hx => by
          refine HI.out ks.toL[q] (List.getElem_mem hlt) n₀ b (wr.heap.size + 1) _ _ Wx rfl (bB3.below hx bB3.lt) (IsDc.keep (fun y hy => ⟨hy, ?_⟩) _ _ HC.out) hn (by have := hx.size; omega)
          exact (hx.block y (by omega)).trans (hkW3.below.block y hy)
        have HIH := hide hIH
        clear hIH bB3 HC
        refine range_leaf (gf := 37) (B := wr.heap.size + 1) (n₀ := n₀) (b := b) (L := leavesD ks.toL[q]) (pre0 := pre0 ++ leavesL (ks.toL.take q)) rfl (enters_of Try.func37 (by kernel_rfl) rfl) (by omega) HIH.out
          (fun pre Wx => J pre Wx ∧ Kp n₀ b W Wx ∧ Open_ W.heap.size Ds Wx ∧ Blk Wx W.heap.size 27 #[.func (.yield l) #[] #[]])
          (fun pre Wx => Jx pre Wx ∧ Open_ W.heap.size Ds Wx)
          (OwnFrom.and (OwnFrom.mono_ hJ (by omega)) (OwnFrom.and (Kp.own hn0 (by omega)) (OwnFrom.and (Open_.own hDlt) (blk_own (by omega)))))
          (OwnFrom.and (OwnFrom.mono_ hJx (by omega)) (Open_.own hDlt))
          ⟨hJ3, hkW3, hD3, hx3⟩
          (fun v gx => { tmps := #[.func (.yield l) #[] #[], .pointer (some ⟨B, 0, none⟩), .pointer (some ⟨W.heap.size, 0, none⟩), u3, .pointer (some ⟨wr.heap.size, 0, none⟩), .pointer (some ⟨gx, 0, none⟩), .pointer (some ⟨B, 0, none⟩), .int .i64 k, .bool false, u9, u10, u11, .pointer (some ⟨B, 3, none⟩), .slice (some ⟨bk, o, none⟩) ks.toL.length cap, .int .i64 ks.toL.length, .int .i64 q, .bool true, .pointer (some ⟨bk, o + q * 4, none⟩), .agg #[.int .i64 k', .string s', .int .i64 n', .slice a' m' cap'], .agg #[.int .i64 k', .string s', .int .i64 n', .slice a' m' cap'], .func (.func 37) #[] #[.pointer (some ⟨wr.heap.size + 1, 0, none⟩)], v, u22, u23, u24, u25, u26], defers := [] })
          ?assign ?body ?done ?stop
        case assign =>
          intro l2 k2 s2 n2 a2 m2 c2 Wx K hK
          gi_wp2
          exact hK
        case body =>
          rintro l2 pre k2 s2 n2 ks2 a2 m2 c2 gx Wx hgx hgx2 ⟨hJ2, hk2, hD2, hx2⟩ hb2 h52 hkk2 hs2 hpre
          obtain ⟨fn, tmps, assign, body, hy, hR⟩ := HY.out pre (.mk k2 s2 n2 ks2) (.agg #[.int .i64 k2, .string s2, .int .i64 n2, .slice a2 m2 c2]) Wx hJ2 ⟨k2, s2, n2, ks2, a2, m2, c2, rfl, rfl, h52, hkk2, hs2⟩ (hpre.trans (leavesL_prefix hlt pre0))
          obtain ⟨p0, p1, p2, p3⟩ := hb2.four
          have x0 := hx2.one.1
          gi_wp2
          refine ⟨rfl, (show RoundIn (Fence.wide.inRound l2) 0 Try.prog l fn tmps assign body Wx _ from hR).mono ?_⟩
          rintro e W' (⟨rfl, hJ', hk'⟩ | ⟨rfl, hJx', hkf⟩)
          · gi_wp2
            exact ⟨hk', hJ', hk2.trans hk', hD2.recs (hk'.recs.from _), hk'.blk hx2 (by omega) (by decide)⟩
          · gi_wp2
            exact ⟨KeepsFrom.mono_ hkf (by omega), hJx', hD2.recs hkf⟩
        case done =>
          rintro D Wx hD hDx ⟨hJ2, hk2, hD2, hx2⟩ hdef hkx
          have HD2 := hide hD2
          have HDEF := hide hdef
          clear hD2 hdef
          gi_wp2
          refine ⟨⟨q + 1, D :: Ds, u3, .pointer (some ⟨wr.heap.size, 0, none⟩), u5, u9, u10, u11, .bool true, .pointer (some ⟨bk, o + q * 4, none⟩), .agg #[.int .i64 k', .string s', .int .i64 n', .slice a' m' cap'], .agg #[.int .i64 k', .string s', .int .i64 n', .slice a' m' cap'], .func (.func 37) #[] #[.pointer (some ⟨wr.heap.size + 1, 0, none⟩)], u21, u22, u23, u24, u25, .int .i64 ((q : Int) + 1), ?_, by omega, ?_, hk2, ?_, ?_, hx2⟩, ?_⟩
          · rfl
          · rw [leavesL_take hlt, ← List.append_assoc]
            exact hJ2
          · exact List.nodup_cons.2 ⟨fun h => by have := hDlt D h; omega, HND.out⟩
          · intro E hE
            rcases List.mem_cons.1 hE with rfl | hE
            · exact ⟨by omega, hDx, HDEF.out⟩
            · exact HD2.out E hE
          · simp [intOf]
            omega
        case stop =>
          rintro D pre Wx hD hDx ⟨hJ2, hD2⟩ hdef
          have HD2 := hide hD2
          have HDEF := hide hdef
          clear hD2 hdef
          gi_wp2
          refine leave_marks (B := W.heap.size) (R := fun W' => (J (pre0 ++ leavesL ks.toL) W' ∧ Kp n₀ b W W') ∨ ∃ pre, Jx pre W') rfl
            (fun X D h hB hD => h.elim (fun h => Or.inl ⟨hJ.putObj _ h.1 hB hD rfl, h.2.put hn0 hB _⟩) (fun ⟨pre, h⟩ => Or.inr ⟨pre, hJx.putObj _ h hB hD rfl⟩)) _ (D :: Ds) Wx (List.nodup_cons.2 ⟨fun h => by have := hDlt D h; omega, HND.out⟩) (fun E hE => ?_) (Or.inr ⟨pre, hJ2⟩)
          rcases List.mem_cons.1 hE with rfl | hE
          · exact ⟨by omega, HDEF.out⟩
          · exact ⟨(HD2.out E hE).1, (HD2.out E hE).2.2⟩
      · gi_wp2
        have hJf := HJ.out
        rw [List.take_of_length_le (by omega)] at hJf
        exact leave_marks (B := W.heap.size) (R := fun W' => (J (pre0 ++ leavesL ks.toL) W' ∧ Kp n₀ b W W') ∨ ∃ pre, Jx pre W') rfl
          (fun X D h hB hD => h.elim (fun h => Or.inl ⟨hJ.putObj _ h.1 hB hD rfl, h.2.put hn0 hB _⟩) (fun ⟨pre, h⟩ => Or.inr ⟨pre, hJx.putObj _ h hB hD rfl⟩)) _ Ds wr HND.out (fun D h => ⟨(HDs.out D h).1, (HDs.out D h).2.2⟩) (Or.inl ⟨hJf, hkq⟩)
end Go.Proofs.Ytggbocimapdidaa
