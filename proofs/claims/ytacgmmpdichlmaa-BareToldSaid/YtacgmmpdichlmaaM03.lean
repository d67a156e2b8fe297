/-
  Same of nodes: the program's, slices.EqualFunc at nodes, the reference's. Its conditions: the values read as nodes.
  Copy: a node in new memory. Its conditions: the value reads as a node, of at most 900000 nodes.
  The program's kid and At: what stands at a path, in new memory. Its conditions: the value reads as a node, of at most 900000 nodes; the slice reads as numbers.
  Cells of blocks that a walk's steps leave alone. No condition.
  The reference's At; the program's bracket. Its conditions: the value reads as a node; the slice reads as numbers.
  Nodes whose rows lie apart from each other: what is laid at a place of one turns nothing else. No condition.
  Copy: a node in new memory, its rows apart from each other. Its conditions: the value reads as a node, of at most 900000 nodes.
  turn, Bare and Same of bare: a tree without its brackets. Its conditions: the value reads as a node, of at most 900000 nodes.
  Same of bare: the program's. Its conditions: the values read as nodes, of at most 900000 nodes each.
  Same of nodes: the reference's. Its conditions: the values read as nodes.
  The program's With: a node with another one at a place. Its conditions: the values read as nodes, of at most 900000 nodes each; the slice reads as numbers.
  The program's Without: a node without one of its brackets. Its conditions: the value reads as a node, of at most 900000 nodes; the slice reads as numbers.
-/
import Derived.Test.YtacgmmpdichlmaaM02
import Derived.Test.YtacgmmpdichlmaaM00
import Derived.BigQuiet
import Derived.Deep.RegionHeld3
namespace Go.Proofs.Ytacgmmpdichlmaa
open Go.RowKit
attribute [local go_sem ↓] Go.wp_at_zero Go.wp_at_succ

/-- The call hands back b, and leaves what was there as it was. -/
def Says (b : Bool) (w : World) (e : Ending) (w' : World) : Prop := e = .returned (.bool b) ∧ Below w.heap.size w w'
/-- The value reads as the node, wherever it lies. -/
def Is (w : World) (d : Nd) (v : Value) : Prop := IsNd w (· < w.heap.size) d v
theorem Is.below {w w' : World} {d : Nd} {v : Value} (h : Is w d v) (hb : Below w.heap.size w w') : Is w' d v := IsNd.below h hb hb.size
/-- A Kid of a slice of nodes. -/
theorem IsSl.kid {w : World} {F : Nat → Prop} {ds : List Nd} {v : Value} (h : IsSl w F ds v) {q : Nat} (hq : q < ds.length) :
    ∃ b o cap k s y n c, v = .slice (some ⟨b, o, none⟩) ds.length cap ∧ F b ∧ w.cell? ⟨b, o + q * 3, none⟩ = some (.int .i64 k) ∧ w.cell? ⟨b, o + q * 3 + 1, none⟩ = some (.string s) ∧ w.cell? ⟨b, o + q * 3 + 2, none⟩ = some (.slice y n c) ∧ IsNd w F ds[q] (.agg #[.int .i64 k, .string s, .slice y n c]) := by
  obtain ⟨a, cap, rfl, hl, hk⟩ := h
  obtain ⟨b, o, rfl, hF, hkk⟩ := hk (by omega)
  obtain ⟨c0, c1, c2, g0, g1, g2, hc⟩ := hkk.get (k := q) (d := ds[q]) (by rw [Nds.toL_ofL]; exact List.getElem?_eq_getElem hq)
  obtain ⟨k, s, y, n, c, hv⟩ := hc.form
  simp only [Value.agg.injEq, Array.mk.injEq, List.cons.injEq, and_true] at hv
  obtain ⟨rfl, rfl, rfl⟩ := hv
  exact ⟨b, o, cap, k, s, y, n, c, rfl, hF, g0, g1, g2, hc⟩
theorem bytesEq {s t : ByteArray} (h : s.toList = t.toList) : s = t := by
  rw [Lib.toList_data, Lib.toList_data] at h
  exact ByteArray.ext (Array.toList_inj.1 h)

mutual
def sameN : Nd → Nd → Bool
  | .mk k s ks, .mk k' s' ks' => decide (k = k') && decide (s = s') && sameNs ks ks'
def sameNs : Nds → Nds → Bool
  | .nil, .nil => true
  | .cons d r, .cons d' r' => sameN d d' && sameNs r r'
  | _, _ => false
end
def sameL : List Nd → List Nd → Bool
  | [], [] => true
  | d :: r, d' :: r' => sameN d d' && sameL r r'
  | _, _ => false
theorem sameNs_L : ∀ ks ks' : Nds, sameNs ks ks' = sameL ks.toL ks'.toL
  | .nil, .nil => by rw [sameNs, Nds.toL, sameL]
  | .nil, .cons _ _ => by rw [sameNs, Nds.toL, Nds.toL, sameL] <;> simp
  | .cons _ _, .nil => by rw [sameNs, Nds.toL, Nds.toL, sameL] <;> simp
  | .cons d r, .cons d' r' => by rw [sameNs, Nds.toL, Nds.toL, sameL, sameNs_L r r']
theorem sameL_len : ∀ l l' : List Nd, l.length ≠ l'.length → sameL l l' = false
  | [], [], h => absurd rfl h
  | [], _ :: _, _ => by rw [sameL] <;> simp
  | _ :: _, [], _ => by rw [sameL] <;> simp
  | d :: r, d' :: r', h => by rw [sameL, sameL_len r r' (by simpa using h)]; simp
mutual
theorem sameN_iff : ∀ d d' : Nd, sameN d d' = true ↔ d = d'
  | .mk k s ks, .mk k' s' ks' => by
    rw [sameN]
    simp only [Bool.and_eq_true, decide_eq_true_eq, sameNs_iff ks ks', Nd.mk.injEq, and_assoc]
theorem sameNs_iff : ∀ d d' : Nds, sameNs d d' = true ↔ d = d'
  | .nil, .nil => by simp [sameNs]
  | .nil, .cons _ _ => by simp [sameNs]
  | .cons _ _, .nil => by simp [sameNs]
  | .cons d r, .cons d' r' => by
    rw [sameNs]
    simp only [Bool.and_eq_true, sameN_iff d d', sameNs_iff r r', Nds.cons.injEq]
end
theorem sameN_refl (d : Nd) : sameN d d = true := (sameN_iff d d).2 rfl

def SameOk (d : Nd) : Prop := ∀ (d' : Nd) (v v' : Value) (w : World), Is w d v → Is w d' v' → Calls Try.prog 34 #[v, v'] w (Says (sameN d d') w)
set_option maxHeartbeats 2000000 in
theorem equal_any (F : Nat → Prop) (ds es : List Nd) (v v' : Value) (w : World) (hF : ∀ b, F b → b < w.heap.size) (h : IsSl w F ds v) (h' : IsSl w F es v') (IH : ∀ d ∈ ds, SameOk d) :
    Calls Try.prog 48 #[v, v', .func (.func 34) #[] #[]] w (Says (sameL ds es) w) := by
  have HSL := hide h
  have HSL' := hide h'
  obtain ⟨a, cap, rfl, hl, -⟩ := h
  obtain ⟨a', cap', rfl, hl', -⟩ := h'
  simp only [maxLen] at hl hl'
  by_cases hne : ds.length = es.length
  · have HN := hide hne.symm
    rw [← hne] at hl' HSL' ⊢
    have e0 : ((ds.length : Int) == (ds.length : Int)) = true := by simp
    clear hne
    go_enter Try.func48, Try.ntmps48
    go_wp2_with fail
    go_loopw [17] (fun i wr => ∃ q : Nat, q ≤ ds.length ∧ i = .int .i64 q ∧ Below w.heap.size w wr ∧ sameL ds es = sameL (ds.drop q) (es.drop q)) (fun i _ => ds.length - (intOf i).toNat)
    case atStart => exact ⟨0, Nat.zero_le _, rfl, Below.refl _ _, rfl⟩
    case round =>
      obtain ⟨q, hq, rfl, hb, hr⟩ := hrel
      have HR := hide hr
      clear hr
      by_cases hlt : q < ds.length
      · have hlt' : q < es.length := by rw [HN.out]; exact hlt
        obtain ⟨b, o, cap2, k1, s1, a1, m1, c1, hv, hFb, g0, g1, g2, hc⟩ := HSL.out.kid hlt
        obtain ⟨b', o', cap2', k2, s2, a2, m2, c2, hv', hFb', f0, f1, f2, he⟩ := HSL'.out.kid hlt'
        cases hv
        rw [HN.out] at hv'
        cases hv'
        have hw : ∀ x i, F x → wr.cell? ⟨x, i, none⟩ = w.cell? ⟨x, i, none⟩ := fun x i hx => hb.cell (p := ⟨x, i, none⟩) (hF x hx)
        rw [← hw _ _ hFb] at g0 g1 g2
        rw [← hw _ _ hFb'] at f0 f1 f2
        have hz := hb.size
        have HCd := hide hc
        have HEd := hide he
        have hdr : sameL (ds.drop q) (es.drop q) = (sameN ds[q] es[q] && sameL (ds.drop (q + 1)) (es.drop (q + 1))) := by rw [List.drop_eq_getElem_cons hlt, List.drop_eq_getElem_cons hlt', sameL]
        have HD := hide hdr
        clear hdr hw hc he
        have hFb1 : b < wr.heap.size := Nat.lt_of_lt_of_le (hF b hFb) hz
        have hFb2 : b' < wr.heap.size := Nat.lt_of_lt_of_le (hF b' hFb') hz
        replace f0 := Lib.cell?_alloc_some (.cells #[.int .i64 k1, .string s1, .slice a1 m1 c1] 25) f0
        replace f1 := Lib.cell?_alloc_some (.cells #[.int .i64 k1, .string s1, .slice a1 m1 c1] 25) f1
        replace f2 := Lib.cell?_alloc_some (.cells #[.int .i64 k1, .string s1, .slice a1 m1 c1] 25) f2
        obtain ⟨W2, hW2⟩ : ∃ W2, (wr.alloc (.cells #[.int .i64 k1, .string s1, .slice a1 m1 c1] 25)).alloc (.cells #[.int .i64 k2, .string s2, .slice a2 m2 c2] 25) = W2 := ⟨_, rfl⟩
        have hb2 : Below w.heap.size w W2 := by
          rw [← hW2]
          exact (hb.alloc hz _).alloc (by simp; omega) _
        have hC1 : Is W2 ds[q] (.agg #[.int .i64 k1, .string s1, .slice a1 m1 c1]) := IsNd.keep (fun x hx => ⟨Nat.lt_of_lt_of_le (hF x hx) hb2.size, hb2.block x (hF x hx)⟩) _ _ HCd.out
        have hC2 : Is W2 es[q] (.agg #[.int .i64 k2, .string s2, .slice a2 m2 c2]) := IsNd.keep (fun x hx => ⟨Nat.lt_of_lt_of_le (hF x hx) hb2.size, hb2.block x (hF x hx)⟩) _ _ HEd.out
        have HC := hide (IH ds[q] (List.getElem_mem hlt) es[q] _ _ W2 hC1 hC2)
        have bX1 : Blk W2 wr.heap.size 25 #[.int .i64 k1, .string s1, .slice a1 m1 c1] := hW2 ▸ (Blk.new wr 25 _).alloc _
        have bX2 : Blk W2 (wr.heap.size + 1) 25 #[.int .i64 k2, .string s2, .slice a2 m2 c2] := by
          have := Blk.new (wr.alloc (.cells #[.int .i64 k1, .string s1, .slice a1 m1 c1] 25)) 25 #[.int .i64 k2, .string s2, .slice a2 m2 c2]
          rw [World.size_alloc, hW2] at this
          exact this
        obtain ⟨p0, p1, p2, -⟩ := bX1.three
        obtain ⟨q0, q1, q2, -⟩ := bX2.three
        clear hC1 hC2 bX1 bX2
        go_wp2_with fail
        refine (unhide HC).mono ?_
        rintro e w1 ⟨rfl, hb1⟩
        clear g0 g1 g2 f0 f1 f2 hW2 p0 p1 p2 q0 q1 q2
        cases hx : sameN ds[q] es[q] with
        | false =>
          go_wp2_with fail
          go_ret
          exact ⟨by rw [HR.out, HD.out, hx]; rfl, hb2.trans (hb1.mono hb2.size)⟩
        | true =>
          go_wp2_with fail
          go_roundw
          case rel => exact ⟨q + 1, by omega, by go_num, hb2.trans (hb1.mono hb2.size), by rw [HR.out, HD.out, hx]; rfl⟩
          case measure => simp [intOf]; omega
      · go_wp2_with fail
        go_ret
        refine ⟨?_, hb⟩
        rw [HR.out, List.drop_eq_nil_of_le (by omega), List.drop_eq_nil_of_le (by rw [HN.out]; omega)]
        rfl
  · have HN := hide (sameL_len ds es hne)
    have e0 : ((ds.length : Int) == (es.length : Int)) = false := beq_eq_false_iff_ne.2 (by omega)
    go_enter Try.func48, Try.ntmps48
    go_wp2_with fail
    go_ret
    exact ⟨by rw [HN.out]; rfl, Below.refl _ _⟩

set_option maxHeartbeats 2000000 in
theorem same_any (d : Nd) : SameOk d := by
  refine Nd.ind_ (P := SameOk) ?_ d
  intro k s ks IH d' v v' w hD hE
  obtain ⟨k', s', ks'⟩ := d'
  obtain ⟨x, rfl, hk, hs, hsl⟩ := hD.split
  obtain ⟨x', rfl, hk', hs', hsl'⟩ := hE.split
  obtain ⟨W, hW⟩ : ∃ W, (w.alloc (.cells #[.int .i64 k, .string s, x] 25)).alloc (.cells #[.int .i64 k', .string s', x'] 25) = W := ⟨_, rfl⟩
  have hbW : Below w.heap.size w W := by
    rw [← hW]
    exact ((Below.refl _ w).alloc (Nat.le_refl _) _).alloc (by simp) _
  have hzW := hbW.size
  have bW1 : Blk W w.heap.size 25 #[.int .i64 k, .string s, x] := hW ▸ (Blk.new w 25 _).alloc _
  have bW2 : Blk W (w.heap.size + 1) 25 #[.int .i64 k', .string s', x'] := by
    have := Blk.new (w.alloc (.cells #[.int .i64 k, .string s, x] 25)) 25 #[.int .i64 k', .string s', x']
    rw [World.size_alloc, hW] at this
    exact this
  obtain ⟨p0, p1, p2, -⟩ := bW1.three
  obtain ⟨q0, q1, q2, -⟩ := bW2.three
  have HC := hide (equal_any (· < W.heap.size) ks.toL ks'.toL x x' W (fun _ h => h) (hsl.keep (fun b h => ⟨Nat.lt_of_lt_of_le h hzW, hbW.block b h⟩)) (hsl'.keep (fun b h => ⟨Nat.lt_of_lt_of_le h hzW, hbW.block b h⟩)) IH)
  obtain ⟨a1, c1, rfl, -⟩ := hsl
  obtain ⟨a2, c2, rfl, -⟩ := hsl'
  clear hD hE bW1 bW2 hs hs'
  unfold Says
  rw [show sameN (.mk k s ks) (.mk k' s' ks') = (decide (k = k') && decide (s = s') && sameL ks.toL ks'.toL) by rw [sameN, sameNs_L]]
  by_cases h1 : k = k'
  · subst h1
    by_cases h2 : s = s'
    · subst h2
      simp only [decide_true, Bool.true_and]
      go_enter Try.func34, Try.ntmps34
      go_wp2_with fail
      refine (unhide HC).mono ?_
      rintro e w1 ⟨rfl, hb1⟩
      go_wp2_with fail
      go_ret
      exact ⟨rfl, hbW.trans (hb1.mono hzW)⟩
    · simp only [decide_true, Bool.true_and, decide_eq_false h2, Bool.false_and]
      have e3 : (s.toList == s'.toList) = false := beq_eq_false_iff_ne.2 (fun e => h2 (bytesEq e))
      go_enter Try.func34, Try.ntmps34
      go_wp2_with fail
      go_ret
      exact ⟨rfl, hbW⟩
  · have e3 : (k == k') = false := beq_eq_false_iff_ne.2 h1
    simp only [decide_eq_false h1, Bool.false_and]
    clear h1
    go_enter Try.func34, Try.ntmps34
    go_wp2_with fail
    go_ret
    exact ⟨rfl, hbW⟩
end Go.Proofs.Ytacgmmpdichlmaa
namespace Go.Proofs.Ytacgmmpdichlmaa
open Go.RowKit
attribute [local go_sem ↓] Go.wp_at_zero Go.wp_at_succ

/-- The call hands back a node in new memory. -/
def NdNew (w : World) (d : Nd) (e : Ending) (w' : World) : Prop := ∃ (k : Int) (s : ByteArray) (y : Option Addr) (m c : Nat), e = .returned (.agg #[.int .i64 k, .string s, .slice y m c]) ∧ IsNd w' (New w.heap.size w') d (.agg #[.int .i64 k, .string s, .slice y m c]) ∧ Below w.heap.size w w'
theorem ended_n {fn : Func} {p : Tmp} {tmps : Array Value} {W : World} {R : Ending → World → Prop} {g : Nat} {c0 c1 c2 : Value} (hr : fn.results = #[.cell p 25]) (hp : tmps.getD p undef = .pointer (some ⟨g, 0, none⟩)) (hb : Blk W g 25 #[c0, c1, c2])
    (hd : R (.returned (.agg #[c0, c1, c2])) W) : bodyPost Try.prog fn R .ret { tmps := tmps, defers := [] } W :=
  bodyPost_ret (results_cell_row hr tmps W g 25 _ (0, 0) _ hp hb Try.underlying25 rfl (by kernel_rfl)) rfl hd
theorem count_mem : ∀ {ks : Nds} {d : Nd}, d ∈ ks.toL → d.count ≤ ks.count
  | .nil, d, h => by simp [Nds.toL] at h
  | .cons x r, d, h => by
    rw [Nds.toL] at h
    rw [Nds.count]
    rcases List.mem_cons.1 h with rfl | h
    · omega
    · have := count_mem h
      omega
theorem len_count : ∀ ks : Nds, ks.toL.length ≤ ks.count
  | .nil => by simp [Nds.toL]
  | .cons x r => by
    have := len_count r
    have := count_pos x
    rw [Nds.toL, Nds.count, List.length_cons]
    omega
theorem count_mk (k : Int) (s : ByteArray) (ks : Nds) : (Nd.mk k s ks).count = 1 + ks.count := by rw [Nd.count]
theorem take_snoc {ds : List Nd} {q : Nat} (h : q < ds.length) : ds.take q ++ [ds[q]] = ds.take (q + 1) := (List.take_succ_eq_append_getElem h).symm
theorem rowof {w W : World} {G : List Nat} {ds : List Nd} {q n c : Nat} {y : Option Addr} (h : q < ds.length) (hx : Hx w W G (.slice y n c) (ds.take q ++ [ds[q]])) : Hx w W G (.slice y (q + 1) c) (ds.take (q + 1)) := by
  have hf := hx.form
  rw [take_snoc h] at hf hx
  obtain ⟨a, c', hf⟩ := hf
  cases hf
  have : (ds.take (q + 1)).length = q + 1 := by rw [List.length_take]; omega
  rw [this] at hx
  exact hx
theorem rowlen_eq {w W : World} {G : List Nat} {ds : List Nd} {q n c : Nat} {y : Option Addr} (h : q < ds.length) (hx : Hx w W G (.slice y n c) (ds.take q ++ [ds[q]])) : Value.slice y n c = .slice y (q + 1) c := by
  have hf := hx.form
  obtain ⟨a, c', hf⟩ := hf
  cases hf
  rw [take_snoc h]
  have : (ds.take (q + 1)).length = q + 1 := by rw [List.length_take]; omega
  rw [this]
def CopyOk (d : Nd) : Prop := ∀ (v : Value) (w : World), Is w d v → d.count ≤ 900000 → Calls Try.prog 36 #[v] w (NdNew w d)
set_option maxRecDepth 100000 in
set_option maxHeartbeats 4000000 in
theorem copy_any (d : Nd) : CopyOk d := by
  refine Nd.ind_ (P := CopyOk) ?_ d
  intro k s ks IH v w hD hcnt
  obtain ⟨x, rfl, hk, hs, hsl⟩ := hD.split
  have HSL := hide hsl
  have HIH := hide IH
  obtain ⟨a1, c1, rfl, hm1, -⟩ := hsl
  simp only [maxLen] at hm1
  rw [count_mk] at hcnt
  have hlc := len_count ks
  have HCM := hide (fun d h => Nat.le_trans (count_mem (ks := ks) (d := d) h) (show ks.count ≤ 900000 by omega))
  have HOF := hide (Nd.of_kids k s ks)
  clear hD IH
  obtain ⟨ds, hds⟩ : ∃ ds, ks.toL = ds := ⟨_, rfl⟩
  rw [hds] at HSL HIH HCM HOF hm1 hlc ⊢
  clear hds
  go_enter Try.func36, Try.ntmps36
  go_wp2_with fail
  refine namedWp fun W1 hW1 => ?_
  have HS1 := hide (show St w W1 [ne w.heap.size k s a1 ds.length c1, nz (w.heap.size + 1)] from St.onto hW1 (((St.nil w).var 25 _ (by simp)).var 25 _ (by simp)))
  clear hW1
  go_loopw [3, 9] (fun lv i wr => ∃ (q : Nat) (y : Option Addr) (c : Nat), lv = .slice y q c ∧ q ≤ ds.length ∧ i = .int .i64 q ∧ St w wr [ne w.heap.size k s a1 ds.length c1, nz (w.heap.size + 1)] ∧ Hx w wr [w.heap.size, w.heap.size + 1] (.slice y q c) (ds.take q)) (fun _ i _ => ds.length - (intOf i).toNat)
  case atStart => exact ⟨0, none, 0, rfl, Nat.zero_le _, rfl, HS1.out, Hx.nil _ _ _⟩
  obtain ⟨q, y, c, rfl, hq, rfl, hS, hH⟩ := hrel
  have HSr := hide hS
  have HRk := hide hH
  clear hS hH HS1
  by_cases hlt : q < ds.length
  ·
   have hlti : (q : Int) < (ds.length : Int) := by omega
   obtain ⟨b, o, cap2, k1, s1, y1, m1, e1, hv, hFb, g0, g1, g2, hc⟩ := HSL.out.kid hlt
   cases hv
   have HC := hide hc
   clear hc
   replace g0 := (Below.cell HSr.out.below (p := ⟨b, o + q * 3, none⟩) hFb).trans g0
   replace g1 := (Below.cell HSr.out.below (p := ⟨b, o + q * 3 + 1, none⟩) hFb).trans g1
   replace g2 := (Below.cell HSr.out.below (p := ⟨b, o + q * 3 + 2, none⟩) hFb).trans g2
   have p0 := (HSr.out.get 0 rfl).see3
   have p1 := (HSr.out.get 1 rfl).see3
   go_wp2_with fail
   have lv2_0 := (HSr.out.get 0 rfl).lt
   have lv2_1 := (HSr.out.get 1 rfl).lt
   refine named fun W2 hW2 => ?_
   have HS2 := hide (show St w W2 [ne w.heap.size k s (some ⟨b, o, none⟩) ds.length c1, nz (w.heap.size + 1), ne wr.heap.size k1 s1 y1 m1 e1] from St.onto hW2 (HSr.out.var 25 _ (by simp)))
   have HRl2 := hide (Px.onto hW2 (HRk.out.var (g := wr.heap.size) (by simp) _))
   clear HRk
   clear hW2 HSr
   clear p0 p1
   have hI1 : Is W2 ds[q] _ := HC.out.below (HS2.out.below) HS2.out.below.size
   refine (HIH.out ds[q] (List.getElem_mem hlt) _ _ hI1 (HCM.out _ (List.getElem_mem hlt))).mono ?_
   rintro e w3 ⟨k3, s3, y3, m3, c3, rfl, hn3, hb3⟩
   have HS3 := hide (HS2.out.call hb3)
   have HRl3 := hide (Px.made HRl2.out hn3 hb3 HS2.out rfl)
   clear HRl2
   clear hn3 hb3 HS2
   have p0 := (HS3.out.get 0 rfl).see3
   have p1 := (HS3.out.get 1 rfl).see3
   have p2 := (HS3.out.get 2 rfl).see3
   clear hI1 g0 g1 g2
   have lv4_0 := (HS3.out.get 0 rfl).lt
   have lv4_1 := (HS3.out.get 1 rfl).lt
   have lv4_2 := (HS3.out.get 2 rfl).lt
   have hSt4 : St w w3 [ne w.heap.size k s (some ⟨b, o, none⟩) ds.length c1, nz (w.heap.size + 1), ne wr.heap.size k1 s1 y1 m1 e1] := HS3.out
   have hPx4 : Px w w3 [w.heap.size, w.heap.size + 1, wr.heap.size] (.slice y q c) (ds.take q) [ds[q]] [.int .i64 k3, .string s3, .slice y3 m3 c3] := HRl3.out
   obtain ⟨v4, w4, hr4, hH4, hS4⟩ := hPx4.snoc hSt4 rfl (by rw [List.length_take]; simp; omega) (by simp)
   simp only [List.length_cons, List.length_nil, Nat.zero_add] at hr4
   obtain ⟨y4, n4, c4, rfl⟩ := hH4.form'
   clear hSt4 hPx4 HS3 HRl3
   have HS4 := hide hS4
   have HRl4 := hide hH4
   clear hS4 hH4
   have rr0 := (HS4.out.get 0 rfl).see3
   have rr1 := (HS4.out.get 1 rfl).see3
   have rr2 := (HS4.out.get 2 rfl).see3
   go_wp2_with (at_builtin; refine wpList_append_run rfl _ _ (by rfl) (by rfl) (by rfl) (by rfl) hr4 ?_)
   clear hr4 p0 p1 p2
   exact ⟨⟨q + 1, y4, c4, rowlen_eq hlt HRl4.out, by omega, by go_num, HS4.out.cut 2 rfl, rowof hlt (HRl4.out.fewer (by simp))⟩, by simp [intOf]; omega⟩
  have p0 := (HSr.out.get 0 rfl).see3
  have p1 := (HSr.out.get 1 rfl).see3
  have hlti : ¬ (q : Int) < (ds.length : Int) := by omega
  obtain rfl : q = ds.length := by omega
  go_wp2_with fail
  refine namedPost fun W5 hW5 => ?_
  have HS5 := hide (show St w W5 [ne w.heap.size k s y ds.length c, ne (w.heap.size + 1) k s y ds.length c] from St.onto hW5 ((HSr.out.st 0 rfl 2 _).st3 1 rfl _ _ _))
  have HRl5 := hide (Px.onto hW5 ((HRk.out.st (by simp) _ _).st3 (by simp) _ _ _))
  clear HRk
  clear hW5 HSr
  clear p0 p1
  have hN := Px.node (k := k) (s := s) HRl5.out hk hs
  rw [List.take_length, HOF.out] at hN
  exact ended_n rfl rfl (HS5.out.get 1 rfl) ⟨_, _, _, _, _, rfl, hN.out, HS5.out.below⟩
end Go.Proofs.Ytacgmmpdichlmaa
namespace Go.Proofs.Ytacgmmpdichlmaa
open Go.RowKit
attribute [local go_sem ↓] Go.wp_at_zero Go.wp_at_succ

/-- The slice reads as the numbers. -/
def IsPath (w : World) (F : Nat → Prop) (v : Value) (p : List Int) : Prop :=
  ∃ a c, v = .slice a p.length c ∧ p.length ≤ maxLen ∧ (p ≠ [] → ∃ b o, a = some ⟨b, o, none⟩ ∧ F b ∧ ∀ k x, p[k]? = some x → w.cell? ⟨b, o + k, none⟩ = some (.int .i64 x))
theorem IsPath.keep {w w' : World} {F F' : Nat → Prop} (hF : ∀ b, F b → F' b ∧ w'.heap[b]? = w.heap[b]?) {v : Value} {p : List Int} (h : IsPath w F v p) : IsPath w' F' v p := by
  obtain ⟨a, c, h1, h2, h3⟩ := h
  refine ⟨a, c, h1, h2, fun hne => ?_⟩
  obtain ⟨b, o, ha, hb, hc⟩ := h3 hne
  exact ⟨b, o, ha, (hF b hb).1, fun k x hx => (World.cell?_of_block (w := w) (a := ⟨b, o + k, none⟩) (hF b hb).2).trans (hc k x hx)⟩
theorem IsPath.below {w w' : World} {v : Value} {p : List Int} (h : IsPath w (· < w.heap.size) v p) (hb : Below w.heap.size w w') : IsPath w' (· < w'.heap.size) v p := h.keep fun b hb' => ⟨Nat.lt_of_lt_of_le hb' hb.size, hb.block b hb'⟩
theorem IsPath.get {w : World} {F : Nat → Prop} {a : Option Addr} {m c : Nat} {p : List Int} (h : IsPath w F (.slice a m c) p) {q : Nat} (hq : q < p.length) : ∃ b o, a = some ⟨b, o, none⟩ ∧ F b ∧ w.cell? ⟨b, o + q, none⟩ = some (.int .i64 p[q]) := by
  obtain ⟨a', c', hv, _, h3⟩ := h
  cases hv
  obtain ⟨b, o, ha, hb, hc⟩ := h3 (by rintro rfl; simp at hq)
  exact ⟨b, o, ha, hb, hc q _ (List.getElem?_eq_getElem hq)⟩

theorem kid_in {w : World} {b o b' o' q m c : Nat} (hc : w.cell? ⟨b, o + 2, none⟩ = some (.slice (some ⟨b', o', none⟩) m c)) (hq : q < m) (_hm : m ≤ maxLen) :
    Calls Try.prog 35 #[.pointer (some ⟨b, o, none⟩), .int .i64 q] w fun e w' => e = .returned (.pointer (some ⟨b', o' + q * 3, none⟩)) ∧ w' = w := by
  have hqi : (q : Int) < (m : Int) := by omega
  have hq0 : ¬ (q : Int) < 0 := by omega
  simp only [maxLen] at _hm
  go_enter Try.func35, Try.ntmps35
  go_wp2_with fail
  go_ret
  exact ⟨rfl, rfl⟩
theorem kid_out {w : World} {b o m c : Nat} {y : Option Addr} {x : Int} (hc : w.cell? ⟨b, o + 2, none⟩ = some (.slice y m c)) (hq : x < 0 ∨ (m : Int) ≤ x) :
    Calls Try.prog 35 #[.pointer (some ⟨b, o, none⟩), .int .i64 x] w fun e w' => e = .returned (.pointer none) ∧ w' = w := by
  by_cases h0 : x < 0
  · clear hq
    go_enter Try.func35, Try.ntmps35
    go_wp2_with fail
    go_ret
    exact ⟨rfl, rfl⟩
  · have hx : (m : Int) ≤ x := by omega
    clear hq
    go_enter Try.func35, Try.ntmps35
    go_wp2_with fail
    go_ret
    exact ⟨rfl, rfl⟩
theorem ended_nb_ {fn : Func} {p q : Tmp} {tmps : Array Value} {W : World} {R : Ending → World → Prop} {g : Nat} {x0 x1 x2 y : Value} (hr : fn.results = #[.cell p 25, .tmp q]) (hp : tmps.getD p undef = .pointer (some ⟨g, 0, none⟩)) (hq : tmps.getD q undef = y)
    (h0 : Blk W g 25 #[x0, x1, x2]) (hd : R (.returned (.tuple #[.agg #[x0, x1, x2], y])) W) : bodyPost Try.prog fn R .ret { tmps := tmps, defers := [] } W := ended_nb hr hp hq h0 hd
/-- What At hands back: a node of blocks of F, or none. -/
def AtP (F : World → Nat → Prop) (w : World) (o : Option Nd) (e : Ending) (w' : World) : Prop :=
  (match o with
   | none => e = .returned (.tuple #[.agg #[.int .i64 0, .string ⟨#[]⟩, .slice none 0 0], .bool false])
   | some d => ∃ (k : Int) (s : ByteArray) (y : Option Addr) (m c : Nat), e = .returned (.tuple #[.agg #[.int .i64 k, .string s, .slice y m c], .bool true]) ∧ IsNd w' (F w') d (.agg #[.int .i64 k, .string s, .slice y m c])) ∧ Below w.heap.size w w'
theorem atN_drop {p : List Int} {q : Nat} (h : q < p.length) (d : Nd) : atN (p.drop q) d = (kidI d.kids p[q]).bind (atN (p.drop (q + 1))) := by
  rw [List.drop_eq_getElem_cons h, atN]
theorem count_kid {d x : Nd} {i : Int} (h : kidI d.kids i = some x) : x.count ≤ d.count := by
  obtain ⟨k, s, ks⟩ := d
  rw [count_mk]
  have := count_mem (List.mem_of_getElem? (kidI_some h).2)
  omega
/-- The node's own shape. -/
theorem IsNd.out {w : World} {F : Nat → Prop} {d : Nd} {k : Int} {s : ByteArray} {y : Option Addr} {m c : Nat} (h : IsNd w F d (.agg #[.int .i64 k, .string s, .slice y m c])) : m = d.kids.length ∧ d.kids.length ≤ maxLen ∧ IsSl w F d.kids (.slice y m c) ∧ d.kind = k ∧ d.text = s := by
  obtain ⟨k', s', ks⟩ := d
  obtain ⟨x, hx, hk, hs, hsl⟩ := h.split
  simp only [Value.agg.injEq, Array.mk.injEq, List.cons.injEq, and_true, Value.int.injEq, Value.string.injEq, true_and] at hx
  obtain ⟨rfl, rfl, rfl⟩ := hx
  have h0 := hsl
  obtain ⟨a, c', hv, hl, _⟩ := hsl
  cases hv
  exact ⟨rfl, hl, h0, rfl, rfl⟩

set_option maxHeartbeats 4000000 in
theorem at_any {d : Nd} {v u : Value} {p : List Int} {w : World} (hD : Is w d v) (hcnt : d.count ≤ 900000) (hP : IsPath w (· < w.heap.size) u p) :
    Calls Try.prog 21 #[v, u] w (AtP (fun W => New w.heap.size W) w (atN p d)) := by
  obtain ⟨k0, s0, y0, m0, c0, rfl⟩ := hD.form
  obtain ⟨pa, pc, rfl, hpl, -⟩ := id hP
  have HP := hide hP
  have HD := hide hD
  simp only [maxLen] at hpl
  clear hP hD
  go_enter Try.func21, Try.ntmps21
  go_wp2_with fail
  refine namedWp fun W1 hW1 => ?_
  have HS1 := hide (show St w W1 [(w.heap.size, 25, #[.int .i64 k0, .string s0, .slice y0 m0 c0]), nz (w.heap.size + 1)] from St.onto hW1 (((St.nil w).var 25 _ (by simp)).var 25 _ (by simp)))
  clear hW1
  have q1 := (HS1.out.get 1 rfl).see3
  have HD1 := hide (HD.out.below HS1.out.below)
  have HP1 := hide (HP.out.below HS1.out.below)
  obtain ⟨h00, h01, h02, -⟩ := (HS1.out.get 0 rfl).three
  have hlt0 := (HS1.out.get 0 rfl).lt
  clear HD HP
  go_loopw [6, 11] (fun xv iv wr => ∃ (q : Nat) (d' : Nd) (b o : Nat) (k : Int) (s : ByteArray) (y : Option Addr) (m c : Nat), xv = .pointer (some ⟨b, o, none⟩) ∧ iv = .int .i64 q ∧ q ≤ p.length ∧ wr = W1 ∧ b < W1.heap.size ∧ W1.cell? ⟨b, o, none⟩ = some (.int .i64 k) ∧ W1.cell? ⟨b, o + 1, none⟩ = some (.string s) ∧ W1.cell? ⟨b, o + 2, none⟩ = some (.slice y m c) ∧ Is W1 d' (.agg #[.int .i64 k, .string s, .slice y m c]) ∧ atN p d = atN (p.drop q) d' ∧ d'.count ≤ 900000) (fun _ iv _ => p.length - (intOf iv).toNat)
  case atStart => exact ⟨0, d, w.heap.size, 0, k0, s0, y0, m0, c0, rfl, rfl, Nat.zero_le _, rfl, hlt0, h00, h01, h02, HD1.out, rfl, hcnt⟩
  case round =>
    obtain ⟨q, d', b, o, k, s, y, m, c, rfl, rfl, hq, rfl, hb, g0, g1, g2, hd', hat, hcnt'⟩ := hrel
    have HD' := hide hd'
    have HAT := hide hat
    clear hd' hat h00 h01 h02
    by_cases hlt : q < p.length
    · have hlti : (q : Int) < (p.length : Int) := by omega
      obtain ⟨pb, po, rfl, hpb, gp⟩ := HP1.out.get hlt
      obtain ⟨hm, hml, hsl, -, -⟩ := HD'.out.out
      obtain ⟨x, hx⟩ : ∃ x, p[q] = x := ⟨_, rfl⟩
      rw [hx] at gp
      have HX := hide hx
      clear hx
      by_cases hin : 0 ≤ x ∧ x.toNat < d'.kids.length
      · obtain ⟨j, rfl⟩ : ∃ j : Nat, x = j := ⟨x.toNat, by omega⟩
        have hj : j < d'.kids.length := by omega
        obtain ⟨b', o', cap', k', s', y', m', c', hv, hFb, f0, f1, f2, hk⟩ := hsl.kid hj
        cases hv
        have HK := hide hk
        have hmm : d'.kids.length ≤ maxLen := hml
        have hkc : d'.kids[j].count ≤ 900000 := Nat.le_trans (count_kid (d := d') (i := j) (by rw [kidI_ofNat]; exact List.getElem?_eq_getElem hj)) hcnt'
        have hat2 : atN p d = atN (p.drop (q + 1)) d'.kids[j] := by rw [HAT.out, atN_drop hlt, HX.out, kidI_ofNat, List.getElem?_eq_getElem hj]; rfl
        have HAT2 := hide hat2
        clear hk hsl hat2 hin
        go_wp2_with fail
        refine (kid_in g2 (by omega) (by omega)).mono ?_
        rintro e w2 ⟨rfl, rfl⟩
        go_wp2_with fail
        exact ⟨⟨q + 1, d'.kids[j], b', o' + j * 3, k', s', y', m', c', rfl, by go_num, by omega, trivial, hFb, f0, f1, f2, HK.out, HAT2.out, hkc⟩, by simp [intOf]; omega⟩
      · have hat2 : atN p d = none := by
          rw [HAT.out, atN_drop hlt, HX.out]
          have : kidI d'.kids x = none := by
            cases hkk : kidI d'.kids x with
            | none => rfl
            | some z =>
              obtain ⟨h1, h2⟩ := kidI_some hkk
              exact absurd ⟨h1, (List.getElem?_eq_some_iff.1 h2).1⟩ hin
          rw [this]; rfl
        have HAT2 := hide hat2
        have hout : x < 0 ∨ (m : Int) ≤ x := by omega
        clear hat2 hin hsl
        go_wp2_with fail
        refine (kid_out g2 hout).mono ?_
        rintro e w2 ⟨rfl, rfl⟩
        go_wp2_with fail
        rw [HAT2.out]
        exact ended_nb_ rfl rfl rfl ((HS1.out.st3 1 rfl _ _ _).get 1 rfl) ⟨rfl, (HS1.out.st3 1 rfl _ _ _).below⟩
    · have hlti : ¬ (q : Int) < (p.length : Int) := by omega
      have hat2 : atN p d = some d' := by rw [HAT.out, List.drop_eq_nil_of_le (by omega), atN]
      have HAT2 := hide hat2
      clear hat2
      go_wp2_with fail
      refine (copy_any d' _ _ HD'.out hcnt').mono ?_
      rintro e w2 ⟨k2, s2, y2, m2, c2, rfl, hn2, hb2⟩
      have HS2 := hide (HS1.out.call hb2)
      have q2 := (HS2.out.get 1 rfl).see3
      have HN := hide (show Nx w w2 [w.heap.size, w.heap.size + 1] d' _ from Nx.made hn2 HS1.out)
      clear hn2 hb2 q1
      go_wp2_with fail
      rw [HAT2.out]
      exact ended_nb_ rfl rfl rfl ((HS2.out.st3 1 rfl _ _ _).get 1 rfl) ⟨⟨_, _, _, _, _, rfl, (HN.out.st3 (by simp) _ _ _).out⟩, (HS2.out.st3 1 rfl _ _ _).below⟩
end Go.Proofs.Ytacgmmpdichlmaa
namespace Go.Proofs.Ytacgmmpdichlmaa
open Go.RowKit

theorem st3_cell {W : World} {g b i : Nat} {v : Value} (hne : b ≠ g) (h : W.cell? ⟨b, i, none⟩ = some v) (x y z : Value) : (((W.setCell ⟨g, 0, none⟩ x).setCell ⟨g, 1, none⟩ y).setCell ⟨g, 2, none⟩ z).cell? ⟨b, i, none⟩ = some v := by
  have h1 := fun (W : World) (j : Nat) (u : Value) => World.cell?_of_block (w := W) (w' := W.setCell ⟨g, j, none⟩ u) (a := ⟨b, i, none⟩) (Below.heap_setCell W ⟨g, j, none⟩ u b (fun e => hne e))
  rw [h1, h1, h1, h]
theorem alloc_cell {W : World} {b i : Nat} {v : Value} (hlt : b < W.heap.size) (h : W.cell? ⟨b, i, none⟩ = some v) (o : Obj) : (W.alloc o).cell? ⟨b, i, none⟩ = some v := (Below.cell ((Below.refl _ W).alloc (Nat.le_refl _) o) (p := ⟨b, i, none⟩) hlt).trans h
theorem dr_cell {W : World} {b i : Nat} {v : Value} (h : W.cell? ⟨b, i, none⟩ = some v) : W.drew.cell? ⟨b, i, none⟩ = some v := h
theorem onto_cell {W W' : World} {b i : Nat} {v : Value} (e : W' = W) (h : W.cell? ⟨b, i, none⟩ = some v) : W'.cell? ⟨b, i, none⟩ = some v := e ▸ h
end Go.Proofs.Ytacgmmpdichlmaa
namespace Go.Proofs.Ytacgmmpdichlmaa
open Go.RowKit
attribute [local go_sem ↓] Go.wp_at_zero Go.wp_at_succ

theorem br_of {d : Nd} : d.br = (decide (d.kind = 12) && decide (d.kids.length = 1)) := by
  obtain ⟨k, s, ks⟩ := d
  simp only [Nd.br, isBr, Nd.kind, Nd.kids, Nds.len_toL]
  rfl
theorem bracketB_any {d : Nd} {v : Value} {w : World} {F : Nat → Prop} (hD : IsNd w F d v) : Calls Try.prog 22 #[v] w (Says d.br w) := by
  obtain ⟨k, s, y, m, c, rfl⟩ := hD.form
  obtain ⟨hm, hml, -, hk, -⟩ := hD.out
  simp only [maxLen] at hml
  unfold Says
  rw [br_of, ← hm, hk]
  rw [← hm] at hml
  clear hm hk hD
  by_cases h1 : k = 12
  · have e1 : (k == 12) = true := by simpa using h1
    rw [show decide (k = 12) = true by simpa using h1, Bool.true_and]
    clear h1
    by_cases h2 : m = 1
    · have e2 : ((m : Int) == 1) = true := by simp; omega
      rw [show decide (m = 1) = true by simpa using h2]
      clear h2
      go_enter Try.func22, Try.ntmps22
      go_wp2_with fail
      go_ret
      exact ⟨rfl, (Below.refl _ w).alloc (Nat.le_refl _) _⟩
    · have e2 : ((m : Int) == 1) = false := by simp; omega
      rw [show decide (m = 1) = false by simpa using h2]
      clear h2
      go_enter Try.func22, Try.ntmps22
      go_wp2_with fail
      go_ret
      exact ⟨rfl, (Below.refl _ w).alloc (Nat.le_refl _) _⟩
  · have e1 : (k == 12) = false := by simpa using h1
    rw [show decide (k = 12) = false by simpa using h1, Bool.false_and]
    clear h1
    go_enter Try.func22, Try.ntmps22
    go_wp2_with fail
    go_ret
    exact ⟨rfl, (Below.refl _ w).alloc (Nat.le_refl _) _⟩

set_option maxRecDepth 100000 in
set_option maxHeartbeats 4000000 in
theorem refAt_any {d : Nd} {v u : Value} {p : List Int} {w : World} (hD : Is w d v) (hP : IsPath w (· < w.heap.size) u p) :
    Calls Try.prog 11 #[v, u] w (AtP (fun W b => b < W.heap.size) w (atN p d)) := by
  obtain ⟨k0, s0, y0, m0, c0, rfl⟩ := hD.form
  obtain ⟨pa, pc, rfl, hpl, -⟩ := id hP
  have HP := hide hP
  have HD := hide hD
  simp only [maxLen] at hpl
  clear hP hD
  go_enter Try.func11, Try.ntmps11
  go_wp2_with fail
  refine namedWp fun W1 hW1 => ?_
  have HS1 := hide (show St w W1 [ne w.heap.size k0 s0 y0 m0 c0, nz (w.heap.size + 1)] from St.onto hW1 (((St.nil w).var 25 _ (by simp)).var 25 _ (by simp)))
  clear hW1
  go_loopw [6] (fun iv wr => ∃ (q : Nat) (d' : Nd) (k : Int) (s : ByteArray) (y : Option Addr) (m c : Nat), iv = .int .i64 q ∧ q ≤ p.length ∧ St w wr [ne w.heap.size k s y m c, nz (w.heap.size + 1)] ∧ IsNd w (· < w.heap.size) d' (.agg #[.int .i64 k, .string s, .slice y m c]) ∧ atN p d = atN (p.drop q) d') (fun iv _ => p.length - (intOf iv).toNat)
  case atStart => exact ⟨0, d, k0, s0, y0, m0, c0, rfl, Nat.zero_le _, HS1.out, HD.out, rfl⟩
  obtain ⟨q, d', k, s, y, m, c, rfl, hq, hS, hd', hat⟩ := hrel
  have HSr := hide hS
  have HD' := hide hd'
  have HAT := hide hat
  clear hS hd' hat HS1
  by_cases hlt : q < p.length
  ·
   have hlti : (q : Int) < (p.length : Int) := by omega
   obtain ⟨pb, po, rfl, hpb, gp⟩ := HP.out.get hlt
   obtain ⟨hm, hml, hsl, -, -⟩ := HD'.out.out
   obtain ⟨x, hx⟩ : ∃ x, p[q] = x := ⟨_, rfl⟩
   rw [hx] at gp
   have HX := hide hx
   clear hx
   have hpb1 : pb < w.heap.size := hpb
   have hp0 : pb ≠ w.heap.size := by omega
   have gp1 := (Below.cell HSr.out.below (p := ⟨pb, po + q, none⟩) hpb1).trans gp
   by_cases hin : 0 ≤ x ∧ x.toNat < d'.kids.length
   ·
    obtain ⟨j, rfl⟩ : ∃ j : Nat, x = j := ⟨x.toNat, by omega⟩
    have hj : j < d'.kids.length := by omega
    obtain ⟨b', o', cap', k', s', y', m', c', hv, hFb, f0, f1, f2, hk⟩ := hsl.kid hj
    cases hv
    have HK := hide hk
    have hat2 : atN p d = atN (p.drop (q + 1)) d'.kids[j] := by rw [HAT.out, atN_drop hlt, HX.out, kidI_ofNat, List.getElem?_eq_getElem hj]; rfl
    have HAT2 := hide hat2
    clear hk hsl hat2 hin
    have hji : ¬ (d'.kids.length : Int) ≤ (j : Int) := by omega
    have hjj : (j : Int) < (d'.kids.length : Int) := by omega
    have hj0 : ¬ (j : Int) < 0 := by omega
    have hb1 : b' < w.heap.size := hFb
    have hb0 : b' ≠ w.heap.size := by omega
    simp only [maxLen] at hml
    have p0 := (HSr.out.get 0 rfl).see3
    have p1 := (HSr.out.get 1 rfl).see3
    go_wp2_with fail
    go_quiet (fail)
    clear p0 p1
    clear gp1
    refine namedQ fun WQ hWQ => ?_
    have HSq := hide (St.onto hWQ (HSr.out.drN _))
    clear hWQ HSr
    have hzq := HSq.out.below.size
    have HCp0 := hide ((Below.cell HSq.out.below (p := ⟨pb, po + q, none⟩) hpb1).trans gp)
    have HCa0 := hide ((Below.cell HSq.out.below (p := ⟨b', o' + j * 3, none⟩) hb1).trans f0)
    have HCb0 := hide ((Below.cell HSq.out.below (p := ⟨b', o' + j * 3 + 1, none⟩) hb1).trans f1)
    have HCc0 := hide ((Below.cell HSq.out.below (p := ⟨b', o' + j * 3 + 2, none⟩) hb1).trans f2)
    clear gp f0 f1 f2
    have p0 := (HSq.out.get 0 rfl).see3
    have p1 := (HSq.out.get 1 rfl).see3
    go_wp2_with fail
    refine namedWp fun W2 hW2 => ?_
    have HS2 := hide (St.onto hW2 HSq.out)
    have HCp2 := hide (onto_cell hW2 HCp0.out)
    clear HCp0
    have HCa2 := hide (onto_cell hW2 HCa0.out)
    clear HCa0
    have HCb2 := hide (onto_cell hW2 HCb0.out)
    clear HCb0
    have HCc2 := hide (onto_cell hW2 HCc0.out)
    clear HCc0
    clear hW2 HSq
    clear p0 p1
    refine wp_region_held_drew (S := fun w' => (w'.cell? ⟨pb, po + q, none⟩ = some (.int .i64 j)) ∧ (w'.cell? ⟨b', o' + j * 3, none⟩ = some (.int .i64 k')) ∧ (w'.cell? ⟨b', o' + j * 3 + 1, none⟩ = some (.string s')) ∧ (w'.cell? ⟨b', o' + j * 3 + 2, none⟩ = some (.slice y' m' c'))) (by kernel_rfl) ?_ (fun hHeld => ?_)
    · exact And.intro (HCp2.out) (And.intro (HCa2.out) (And.intro (HCb2.out) (HCc2.out)))
    refine namedAny fun W3 hW3 => ?_
    have HS3 := hide (St.onto hW3 HS2.out.dr)
    have HCp3 := hide (onto_cell hW3 (dr_cell HCp2.out))
    clear HCp2
    have HCa3 := hide (onto_cell hW3 (dr_cell HCa2.out))
    clear HCa2
    have HCb3 := hide (onto_cell hW3 (dr_cell HCb2.out))
    clear HCb2
    have HCc3 := hide (onto_cell hW3 (dr_cell HCc2.out))
    clear HCc2
    clear hW3 HS2
    have hSn := And.intro (HCp3.out) (And.intro (HCa3.out) (And.intro (HCb3.out) (HCc3.out)))
    clear hHeld
    refine takeH (i := 0) (v := ?_) rfl (by kernel_rfl) (by kernel_rfl) (by kernel_rfl) (fun _ _ _ h => h) (by rfl) (by assumption) (fun w hSw => ?_) ?_; rotate_left
    · (try dsimp only at hSw); (try go_split_ands); go_simp; all_goals with_reducible rfl
    try simp only [Act.put, List.getElem_toArray, List.getElem_cons_zero, List.setIfInBounds_toArray, List.set_cons_zero, List.set_cons_succ]
    refine takeH (i := 2) (v := ?_) rfl (by kernel_rfl) (by kernel_rfl) (by kernel_rfl) (fun _ _ _ h => h) (by rfl) (by assumption) (fun w hSw => ?_) ?_; rotate_left
    · (try dsimp only at hSw); (try go_split_ands); go_simp; all_goals with_reducible rfl
    try simp only [Act.put, List.getElem_toArray, List.getElem_cons_zero, List.getElem_cons_succ, List.setIfInBounds_toArray, List.set_cons_zero, List.set_cons_succ]
    refine takeH (i := 3) (v := ?_) rfl (by kernel_rfl) (by kernel_rfl) (by kernel_rfl) (fun _ _ _ h => h) (by rfl) (by assumption) (fun w hSw => ?_) ?_; rotate_left
    · (try dsimp only at hSw); (try go_split_ands); go_simp; all_goals with_reducible rfl
    try simp only [Act.put, List.getElem_toArray, List.getElem_cons_zero, List.getElem_cons_succ, List.setIfInBounds_toArray, List.set_cons_zero, List.set_cons_succ]
    refine takeH (i := 4) (v := ?_) rfl (by kernel_rfl) (by kernel_rfl) (by kernel_rfl) (fun _ _ _ h => h) (by rfl) (by assumption) (fun w hSw => ?_) ?_; rotate_left
    · (try dsimp only at hSw); (try go_split_ands); go_simp; all_goals with_reducible rfl
    try simp only [Act.put, List.getElem_toArray, List.getElem_cons_zero, List.getElem_cons_succ, List.setIfInBounds_toArray, List.set_cons_zero, List.set_cons_succ]
    refine takeH (i := 5) (v := ?_) rfl (by kernel_rfl) (by kernel_rfl) (by kernel_rfl) (fun _ _ _ h => h) (by rfl) (by assumption) (fun w hSw => ?_) ?_; rotate_left
    · (try dsimp only at hSw); (try go_split_ands); go_simp; all_goals with_reducible rfl
    try simp only [Act.put, List.getElem_toArray, List.getElem_cons_zero, List.getElem_cons_succ, List.setIfInBounds_toArray, List.set_cons_zero, List.set_cons_succ]
    refine wpAnyH_ready (rs := [1]) (by kernel_rfl) (by simp) ?_
    refine AllReadyH.cons rfl (fun K hK => ?_) (AllReadyH.nil)
    clear hSn
    have p0 := (HS3.out.get 0 rfl).see3
    go_simp
    refine hK.out _ _ ?_ (fun hHeld => ?_)
    · exact And.intro (HCp3.out) (And.intro (HCa3.out) (And.intro (HCb3.out) (HCc3.out)))
    clear hK K hHeld
    have hSn := And.intro (HCp3.out) (And.intro (HCa3.out) (And.intro (HCb3.out) (HCc3.out)))
    refine takeH (i := 6) (v := ?_) rfl (by kernel_rfl) (by kernel_rfl) (by kernel_rfl) (fun _ _ _ h => h) (by rfl) (by assumption) (fun w hSw => ?_) ?_; rotate_left
    · (try dsimp only at hSw); (try go_split_ands); go_simp; all_goals with_reducible rfl
    try simp only [Act.put, List.getElem_toArray, List.getElem_cons_zero, List.getElem_cons_succ, List.setIfInBounds_toArray, List.set_cons_zero, List.set_cons_succ]
    refine takeH (i := 7) (v := ?_) rfl (by kernel_rfl) (by kernel_rfl) (by kernel_rfl) (fun _ _ _ h => h) (by rfl) (by assumption) (fun w hSw => ?_) ?_; rotate_left
    · (try dsimp only at hSw); (try go_split_ands); go_simp; all_goals with_reducible rfl
    try simp only [Act.put, List.getElem_toArray, List.getElem_cons_zero, List.getElem_cons_succ, List.setIfInBounds_toArray, List.set_cons_zero, List.set_cons_succ]
    refine wpAnyH_ready (rs := [8]) (by kernel_rfl) (by simp) ?_
    refine AllReadyH.cons rfl (fun K hK => ?_) (AllReadyH.nil)
    clear hSn
    clear p0
    have p0 := (HS3.out.get 0 rfl).see3
    go_simp
    refine hK.out _ _ ?_ (fun hHeld => ?_)
    · exact And.intro ((st3_cell hp0 HCp3.out _ _ _)) (And.intro ((st3_cell hb0 HCa3.out _ _ _)) (And.intro ((st3_cell hb0 HCb3.out _ _ _)) ((st3_cell hb0 HCc3.out _ _ _))))
    clear hK K hHeld
    refine namedAny fun W4 hW4 => ?_
    have HS4 := hide (show St w W4 [ne w.heap.size (k') (s') y' m' c', nz (w.heap.size + 1)] from St.onto hW4 (HS3.out.st3 0 rfl _ _ _))
    have HCp4 := hide (onto_cell hW4 (st3_cell hp0 HCp3.out _ _ _))
    clear HCp3
    have HCa4 := hide (onto_cell hW4 (st3_cell hb0 HCa3.out _ _ _))
    clear HCa3
    have HCb4 := hide (onto_cell hW4 (st3_cell hb0 HCb3.out _ _ _))
    clear HCb3
    have HCc4 := hide (onto_cell hW4 (st3_cell hb0 HCc3.out _ _ _))
    clear HCc3
    clear hW4 HS3
    clear p0
    have hSn := And.intro (HCp4.out) (And.intro (HCa4.out) (And.intro (HCb4.out) (HCc4.out)))
    refine wpAnyH_done (by kernel_rfl) ?_ _
    clear hSn
    go_wp2_with fail
    exact ⟨⟨q + 1, d'.kids[j], k', s', y', m', c', by go_num, by omega, HS4.out, HK.out, HAT2.out⟩, by simp [intOf]; omega⟩
   have hat2 : atN p d = none := by
     rw [HAT.out, atN_drop hlt, HX.out]
     have : kidI d'.kids x = none := by
       cases hkk : kidI d'.kids x with
       | none => rfl
       | some z =>
         obtain ⟨h1, h2⟩ := kidI_some hkk
         exact absurd ⟨h1, (List.getElem?_eq_some_iff.1 h2).1⟩ hin
     rw [this]; rfl
   have HAT2 := hide hat2
   clear hat2 hsl
   by_cases hx0 : x < 0
   ·
    clear hin
    have p0 := (HSr.out.get 0 rfl).see3
    have p1 := (HSr.out.get 1 rfl).see3
    go_wp2_with fail
    go_quiet (fail)
    all_goals
      go_wp2_with fail
      rw [HAT2.out]
      exact ended_nb_ rfl rfl rfl ((((HSr.out).drN _).st3 1 rfl _ _ _).get 1 rfl) ⟨rfl, (((HSr.out).drN _).st3 1 rfl _ _ _).below⟩
   have hxm : (m : Int) ≤ x := by omega
   clear hin
   have p0 := (HSr.out.get 0 rfl).see3
   have p1 := (HSr.out.get 1 rfl).see3
   go_wp2_with fail
   go_quiet (fail)
   all_goals
     go_wp2_with fail
     rw [HAT2.out]
     exact ended_nb_ rfl rfl rfl ((((HSr.out).drN _).st3 1 rfl _ _ _).get 1 rfl) ⟨rfl, (((HSr.out).drN _).st3 1 rfl _ _ _).below⟩
  have hlti : ¬ (q : Int) < (p.length : Int) := by omega
  have hat2 : atN p d = some d' := by rw [HAT.out, List.drop_eq_nil_of_le (by omega), atN]
  have HAT2 := hide hat2
  clear hat2
  have p0 := (HSr.out.get 0 rfl).see3
  have p1 := (HSr.out.get 1 rfl).see3
  go_wp2_with fail
  refine namedPost fun W5 hW5 => ?_
  have HS5 := hide (show St w W5 [ne w.heap.size k s y m c, ne (w.heap.size + 1) k s y m c] from St.onto hW5 (HSr.out.st3 1 rfl _ _ _))
  clear hW5 HSr
  clear p0 p1
  rw [HAT2.out]
  exact ended_nb_ rfl rfl rfl (HS5.out.get 1 rfl) ⟨⟨_, _, _, _, _, rfl, HD'.out.below HS5.out.below HS5.out.below.size⟩, HS5.out.below⟩
end Go.Proofs.Ytacgmmpdichlmaa
namespace Go.Proofs.Ytacgmmpdichlmaa
open Go.RowKit

mutual
/-- The value reads as the node; its rows lie in blocks from lo on, below hi, each in its own. -/
def IsT (w : World) : Nat → Nat → Nd → Value → Prop
  | lo, hi, .mk k s ks, v => ∃ (a : Option Addr) (cap : Nat), v = .agg #[.int .i64 k, .string s, .slice a ks.len cap] ∧ (-9223372036854775808 ≤ k ∧ k ≤ 9223372036854775807) ∧ s.size ≤ maxLen ∧ ks.len ≤ maxLen ∧
      (ks.len ≠ 0 → ∃ b cs, a = some ⟨b, 0, none⟩ ∧ lo ≤ b ∧ b < hi ∧ Blk w b 25 cs ∧ IsTs w b lo hi 0 ks)
def IsTs (w : World) (b : Nat) : Nat → Nat → Nat → Nds → Prop
  | _, _, _, .nil => True
  | lo, hi, o, .cons d r => ∃ l m, lo ≤ l ∧ l ≤ m ∧ m ≤ hi ∧ (b < l ∨ m ≤ b) ∧ (∃ c0 c1 c2, w.cell? ⟨b, o, none⟩ = some c0 ∧ w.cell? ⟨b, o + 1, none⟩ = some c1 ∧ w.cell? ⟨b, o + 2, none⟩ = some c2 ∧ IsT w l m d (.agg #[c0, c1, c2])) ∧ IsTs w b m hi (o + 3) r
end
mutual
theorem IsT.nd {w w' : World} {F : Nat → Prop} : ∀ (d : Nd) (lo hi : Nat) (v : Value), (∀ k, lo ≤ k → k < hi → w'.heap[k]? = w.heap[k]? ∧ F k) → IsT w lo hi d v → IsNd w' F d v
  | .mk k s ks, lo, hi, v, hF, h => by
    rw [IsT] at h
    rw [IsNd]
    obtain ⟨a, cap, h0, h1, h3, h4, h5⟩ := h
    refine ⟨a, cap, h0, h1, h3, h4, fun hne => ?_⟩
    obtain ⟨b, cs, ha, hb1, hb2, hb, hk⟩ := h5 hne
    exact ⟨b, 0, ha, (hF b hb1 hb2).2, IsTs.nds ks lo hi 0 b (fun k h1 h2 _ => hF k h1 h2) (fun i _ => World.cell?_of_block (w := w) (a := ⟨b, i, none⟩) (hF b hb1 hb2).1) hk⟩
theorem IsTs.nds {w w' : World} {F : Nat → Prop} : ∀ (ks : Nds) (lo hi o b : Nat), (∀ k, lo ≤ k → k < hi → k ≠ b → w'.heap[k]? = w.heap[k]? ∧ F k) → (∀ i, o ≤ i → w'.cell? ⟨b, i, none⟩ = w.cell? ⟨b, i, none⟩) → IsTs w b lo hi o ks → IsNds w' F b o ks
  | .nil, lo, hi, o, b, _, _, _ => by rw [IsNds]; trivial
  | .cons d r, lo, hi, o, b, hF, hc, h => by
    rw [IsTs] at h
    rw [IsNds]
    obtain ⟨l, m, hl, hlm, hm, hb, ⟨c0, c1, c2, g0, g1, g2, hd⟩, hr⟩ := h
    exact ⟨⟨c0, c1, c2, by rw [hc _ (Nat.le_refl _), g0], by rw [hc _ (by omega), g1], by rw [hc _ (by omega), g2], IsT.nd d l m _ (fun k h1 h2 => hF k (by omega) (by omega) (by omega)) hd⟩,
      IsTs.nds r m hi (o + 3) b (fun k h1 h2 h3 => hF k (by omega) h2 h3) (fun i hi => hc i (by omega)) hr⟩
end
mutual
theorem IsT.keep {w w' : World} : ∀ (d : Nd) (lo hi lo' hi' : Nat) (v : Value), lo' ≤ lo → hi ≤ hi' → (∀ k, lo ≤ k → k < hi → w'.heap[k]? = w.heap[k]?) → IsT w lo hi d v → IsT w' lo' hi' d v
  | .mk k s ks, lo, hi, lo', hi', v, hl, hh, hF, h => by
    rw [IsT] at h ⊢
    obtain ⟨a, cap, h0, h1, h3, h4, h5⟩ := h
    refine ⟨a, cap, h0, h1, h3, h4, fun hne => ?_⟩
    obtain ⟨b, cs, ha, hb1, hb2, hb, hk⟩ := h5 hne
    exact ⟨b, cs, ha, by omega, by omega, (hF b hb1 hb2).trans hb, IsTs.keep ks lo hi lo' hi' 0 b hl hh (fun k h1 h2 _ => hF k h1 h2) (fun i => World.cell?_of_block (w := w) (a := ⟨b, i, none⟩) (hF b hb1 hb2)) hk⟩
theorem IsTs.keep {w w' : World} : ∀ (ks : Nds) (lo hi lo' hi' o b : Nat), lo' ≤ lo → hi ≤ hi' → (∀ k, lo ≤ k → k < hi → k ≠ b → w'.heap[k]? = w.heap[k]?) → (∀ i, w'.cell? ⟨b, i, none⟩ = w.cell? ⟨b, i, none⟩) → IsTs w b lo hi o ks → IsTs w' b lo' hi' o ks
  | .nil, lo, hi, lo', hi', o, b, _, _, _, _, _ => by rw [IsTs]; trivial
  | .cons d r, lo, hi, lo', hi', o, b, hl', hh', hF, hc, h => by
    rw [IsTs] at h ⊢
    obtain ⟨l, m, hl, hlm, hm, hb, ⟨c0, c1, c2, g0, g1, g2, hd⟩, hr⟩ := h
    exact ⟨l, m, by omega, hlm, by omega, hb, ⟨c0, c1, c2, by rw [hc, g0], by rw [hc, g1], by rw [hc, g2], IsT.keep d l m l m _ (Nat.le_refl _) (Nat.le_refl _) (fun k h1 h2 => hF k (by omega) (by omega) (by omega)) hd⟩,
      IsTs.keep r m hi m hi' (o + 3) b (Nat.le_refl _) hh' (fun k h1 h2 h3 => hF k (by omega) h2 h3) hc hr⟩
end
/-- A Kid's place: the Kid, and what the Kids are where something else is laid there. -/
theorem IsTs.put {w : World} {b : Nat} {x : Nd} : ∀ {ks : Nds} {lo hi o j : Nat}, IsTs w b lo hi o ks → ks.toL[j]? = some x →
    ∃ l m c0 c1 c2, lo ≤ l ∧ l ≤ m ∧ m ≤ hi ∧ (b < l ∨ m ≤ b) ∧ w.cell? ⟨b, o + j * 3, none⟩ = some c0 ∧ w.cell? ⟨b, o + j * 3 + 1, none⟩ = some c1 ∧ w.cell? ⟨b, o + j * 3 + 2, none⟩ = some c2 ∧ IsT w l m x (.agg #[c0, c1, c2]) ∧
      ∀ (w' : World) (F : Nat → Prop) (z : Nd) (u0 u1 u2 : Value), (∀ k, lo ≤ k → k < hi → k ≠ b → (k < l ∨ m ≤ k) → w'.heap[k]? = w.heap[k]? ∧ F k) → (∀ i, i < o + j * 3 ∨ o + j * 3 + 3 ≤ i → w'.cell? ⟨b, i, none⟩ = w.cell? ⟨b, i, none⟩) →
        w'.cell? ⟨b, o + j * 3, none⟩ = some u0 → w'.cell? ⟨b, o + j * 3 + 1, none⟩ = some u1 → w'.cell? ⟨b, o + j * 3 + 2, none⟩ = some u2 → IsNd w' F z (.agg #[u0, u1, u2]) → IsNds w' F b o (Nds.ofL (ks.toL.set j z))
  | .nil, lo, hi, o, j, _, h => by simp [Nds.toL] at h
  | .cons d r, lo, hi, o, 0, h, hx => by
    rw [IsTs] at h
    obtain rfl : d = x := by simpa [Nds.toL] using hx
    obtain ⟨l, m, hl, hlm, hm, hb, ⟨c0, c1, c2, g0, g1, g2, hd⟩, hr⟩ := h
    refine ⟨l, m, c0, c1, c2, hl, hlm, hm, hb, by simpa using g0, by simpa using g1, by simpa using g2, hd, fun w' F z u0 u1 u2 hF hc e0 e1 e2 hz => ?_⟩
    rw [Nds.toL, List.set_cons_zero, Nds.ofL, Nds.ofL_toL, IsNds]
    simp only [Nat.zero_mul, Nat.add_zero] at hc e0 e1 e2
    exact ⟨⟨u0, u1, u2, e0, e1, e2, hz⟩, IsTs.nds r m hi (o + 3) b (fun k h1 h2 h3 => hF k (by omega) h2 h3 (Or.inr h1)) (fun i hi => hc i (Or.inr hi)) hr⟩
  | .cons d r, lo, hi, o, j + 1, h, hx => by
    rw [IsTs] at h
    obtain ⟨l0, m0, hl0, hlm0, hm0, hb0, ⟨c0, c1, c2, g0, g1, g2, hd⟩, hr⟩ := h
    obtain ⟨l, m, e0, e1, e2, hl, hlm, hm, hb, f0, f1, f2, hk, hput⟩ := IsTs.put hr (j := j) (x := x) (by simpa [Nds.toL] using hx)
    have ho : o + 3 + j * 3 = o + (j + 1) * 3 := by omega
    rw [ho] at f0 f1 f2 hput
    refine ⟨l, m, e0, e1, e2, by omega, hlm, hm, hb, f0, f1, f2, hk, fun w' F z u0 u1 u2 hF hc e0 e1 e2 hz => ?_⟩
    rw [Nds.toL, List.set_cons_succ, Nds.ofL, IsNds]
    exact ⟨⟨c0, c1, c2, by rw [hc _ (by omega), g0], by rw [hc _ (by omega), g1], by rw [hc _ (by omega), g2], IsT.nd d l0 m0 _ (fun k h1 h2 => hF k (by omega) (by omega) (by omega) (by omega)) hd⟩,
      hput w' F z u0 u1 u2 (fun k h1 h2 h3 h4 => hF k (by omega) h2 h3 h4) hc e0 e1 e2 hz⟩

/-- Cells that read as nodes, whose rows lie from lo on, below hi, one behind the other, outside P. -/
def RowT (w : World) (P : Nat → Prop) : Nat → Nat → List Value → List Nd → Prop
  | lo, hi, [], [] => lo ≤ hi
  | lo, hi, c0 :: c1 :: c2 :: xs, d :: ds => ∃ l m, lo ≤ l ∧ l ≤ m ∧ (∀ k, l ≤ k → k < m → ¬ P k) ∧ IsT w l m d (.agg #[c0, c1, c2]) ∧ RowT w P m hi xs ds
  | _, _, _, _ => False
theorem RowT.out {w : World} {P : Nat → Prop} {lo hi : Nat} {xs : List Value} {d : Nd} {ds : List Nd} (h : RowT w P lo hi xs (d :: ds)) : ∃ c0 c1 c2 ys l m, xs = c0 :: c1 :: c2 :: ys ∧ lo ≤ l ∧ l ≤ m ∧ (∀ k, l ≤ k → k < m → ¬ P k) ∧ IsT w l m d (.agg #[c0, c1, c2]) ∧ RowT w P m hi ys ds := by
  match xs, h with
  | [], h => simp [RowT] at h
  | [_], h => simp [RowT] at h
  | [_, _], h => simp [RowT] at h
  | c0 :: c1 :: c2 :: ys, h =>
    rw [RowT] at h
    obtain ⟨l, m, h1, h2, h3, h4, h5⟩ := h
    exact ⟨c0, c1, c2, ys, l, m, rfl, h1, h2, h3, h4, h5⟩
theorem RowT.out_nil {w : World} {P : Nat → Prop} {lo hi : Nat} {xs : List Value} (h : RowT w P lo hi xs []) : xs = [] ∧ lo ≤ hi := by
  match xs, h with
  | [], h => exact ⟨rfl, by rwa [RowT] at h⟩
  | [_], h => simp [RowT] at h
  | [_, _], h => simp [RowT] at h
  | _ :: _ :: _ :: _, h => simp [RowT] at h
theorem RowT.le {w : World} {P : Nat → Prop} : ∀ {ds : List Nd} {lo hi : Nat} {xs : List Value}, RowT w P lo hi xs ds → lo ≤ hi
  | [], lo, hi, xs, h => h.out_nil.2
  | d :: ds, lo, hi, xs, h => by
    obtain ⟨c0, c1, c2, ys, l, m, rfl, h1, h2, h3, h4, h5⟩ := h.out
    have := RowT.le h5
    omega
theorem RowT.keep {w w' : World} {P P' : Nat → Prop} : ∀ {ds : List Nd} {lo hi hi' : Nat} {xs : List Value}, hi ≤ hi' → (∀ k, lo ≤ k → k < hi → ¬ P k → w'.heap[k]? = w.heap[k]? ∧ ¬ P' k) → RowT w P lo hi xs ds → RowT w' P' lo hi' xs ds
  | [], lo, hi, hi', xs, hh, hF, h => by
    obtain ⟨rfl, h1⟩ := h.out_nil
    rw [RowT]; omega
  | d :: ds, lo, hi, hi', xs, hh, hF, h => by
    obtain ⟨c0, c1, c2, ys, l, m, rfl, h1, h2, h3, h4, h5⟩ := h.out
    have hle := RowT.le h5
    rw [RowT]
    exact ⟨l, m, h1, h2, fun k hk1 hk2 => (hF k (by omega) (by omega) (h3 k hk1 hk2)).2, IsT.keep d l m l m _ (Nat.le_refl _) (Nat.le_refl _) (fun k hk1 hk2 => (hF k (by omega) (by omega) (h3 k hk1 hk2)).1) h4, RowT.keep hh (fun k hk1 hk2 hk3 => hF k (by omega) hk2 hk3) h5⟩
theorem RowT.snoc {w : World} {P : Nat → Prop} {d : Nd} {c0 c1 c2 : Value} {l m : Nat} (hlm : l ≤ m) (hP : ∀ k, l ≤ k → k < m → ¬ P k) (hd : IsT w l m d (.agg #[c0, c1, c2])) : ∀ {ds : List Nd} {lo hi : Nat} {xs : List Value}, hi ≤ l → RowT w P lo hi xs ds → RowT w P lo m (xs ++ [c0, c1, c2]) (ds ++ [d])
  | [], lo, hi, xs, hl, h => by
    obtain ⟨rfl, h1⟩ := h.out_nil
    rw [List.nil_append, List.nil_append, RowT]
    exact ⟨l, m, by omega, hlm, hP, hd, by rw [RowT]; exact Nat.le_refl _⟩
  | e :: ds, lo, hi, xs, hl, h => by
    obtain ⟨e0, e1, e2, ys, l0, m0, rfl, h1, h2, h3, h4, h5⟩ := h.out
    rw [List.cons_append, List.cons_append, List.cons_append, List.cons_append, RowT]
    exact ⟨l0, m0, h1, h2, h3, h4, RowT.snoc hlm hP hd hl h5⟩
theorem IsT.cells {w : World} {lo hi : Nat} {d : Nd} {c0 c1 c2 : Value} (h : IsT w lo hi d (.agg #[c0, c1, c2])) : c0.oneCell' = true ∧ c1.oneCell' = true ∧ c2.oneCell' = true :=
  IsNd.cells (IsT.nd (w' := w) (F := fun _ => True) d lo hi _ (fun _ _ _ => ⟨rfl, trivial⟩) h)
theorem RowT.length {w : World} {P : Nat → Prop} : ∀ {ds : List Nd} {lo hi : Nat} {xs : List Value}, RowT w P lo hi xs ds → xs.length = ds.length * 3
  | [], lo, hi, xs, h => by rw [h.out_nil.1]; rfl
  | d :: ds, lo, hi, xs, h => by
    obtain ⟨c0, c1, c2, ys, l, m, rfl, h1, h2, h3, h4, h5⟩ := h.out
    simp [RowT.length h5]
    omega
/-- A row in a block. -/
theorem RowT.ts {w : World} {b : Nat} {P : Nat → Prop} (hP : P b) : ∀ {ds : List Nd} {lo hi o : Nat} {xs : List Value}, (∀ j u, xs[j]? = some u → w.cell? ⟨b, o + j, none⟩ = some u) → RowT w P lo hi xs ds → IsTs w b lo hi o (Nds.ofL ds)
  | [], lo, hi, o, xs, _, _ => by rw [Nds.ofL, IsTs]; trivial
  | d :: ds, lo, hi, o, xs, hc, h => by
    obtain ⟨c0, c1, c2, ys, l, m, rfl, h1, h2, h3, h4, h5⟩ := h.out
    have hle := RowT.le h5
    rw [Nds.ofL, IsTs]
    refine ⟨l, m, h1, h2, hle, ?_, ⟨c0, c1, c2, by simpa using hc 0 c0 rfl, hc 1 c1 rfl, hc 2 c2 rfl, h4⟩, RowT.ts hP (fun j u hu => ?_) h5⟩
    · rcases Nat.lt_or_ge b l with h | h
      · exact Or.inl h
      · rcases Nat.lt_or_ge b m with h' | h'
        · exact absurd hP (h3 b h h')
        · exact Or.inr h'
    · rw [show o + 3 + j = o + (j + 3) by omega]
      exact hc (j + 3) u (by simpa using hu)
/-- A row of one's own, its nodes in blocks from lo on, apart from each other. -/
def HT (B lo : Nat) (W : World) (v : Value) (ds : List Nd) : Prop := ∃ xs hi, W.ownsRow B 25 3 v ds.length xs ∧ RowT W (fun k => v.ownBlock = some k) lo hi xs ds ∧ hi ≤ W.heap.size ∧ (∀ g, v.ownBlock = some g → lo ≤ g)
theorem HT.nil {B lo : Nat} {W : World} (h : lo ≤ W.heap.size) : HT B lo W (.slice none 0 0) [] := ⟨[], lo, World.ownsRow_nil _ _ _ _, by rw [RowT]; exact Nat.le_refl _, h, fun g h => by simp [Value.ownBlock] at h⟩
theorem HT.form {B lo : Nat} {W : World} {v : Value} {ds : List Nd} (h : HT B lo W v ds) : ∃ a c, v = .slice a ds.length c := by
  obtain ⟨xs, hi, h1, _⟩ := h
  exact own_form h1
theorem HT.form' {B lo : Nat} {W : World} {v : Value} {ds : List Nd} (h : HT B lo W v ds) : ∃ a n c, v = .slice a n c := by
  obtain ⟨a, c, rfl⟩ := h.form
  exact ⟨a, _, c, rfl⟩
theorem HT.call {B lo : Nat} {W W' : World} {v : Value} {ds : List Nd} (h : HT B lo W v ds) (hb : Below W.heap.size W W') : HT B lo W' v ds := by
  obtain ⟨xs, hi, h1, h2, h3, h4⟩ := h
  exact ⟨xs, hi, own_below h1 hb, h2.keep (Nat.le_refl _) (fun k h1 h2 h5 => ⟨hb.block k (by omega), h5⟩), Nat.le_trans h3 hb.size, h4⟩
theorem HT.onto {B lo : Nat} {W W' : World} {v : Value} {ds : List Nd} (e : W' = W) (h : HT B lo W v ds) : HT B lo W' v ds := e ▸ h
theorem HT.al {B lo : Nat} {W : World} {v : Value} {ds : List Nd} (h : HT B lo W v ds) (o : Obj) : HT B lo (W.alloc o) v ds := h.call ((Below.refl _ W).alloc (Nat.le_refl _) o)
theorem HT.st {B lo : Nat} {W : World} {v : Value} {ds : List Nd} (h : HT B lo W v ds) {g : Nat} (hg : g < lo) (i : Nat) (x : Value) : HT B lo (W.setCell ⟨g, i, none⟩ x) v ds := by
  obtain ⟨xs, hi, h1, h2, h3, h4⟩ := h
  refine ⟨xs, hi, ⟨h1.1, ?_⟩, h2.keep (Nat.le_refl _) (fun k h1 h2 h5 => ⟨Below.heap_setCell W ⟨g, i, none⟩ x k (show k ≠ g by omega), h5⟩), by simpa using h3, h4⟩
  rcases h1.2 with hn | ⟨g', cap, cur, hv, hb', hgg, rest⟩
  · exact .inl hn
  · exact .inr ⟨g', cap, cur, hv, hb', (Below.heap_setCell W ⟨g, i, none⟩ x g' (show g' ≠ g by have := h4 g' (by rw [hv]; rfl); omega)).trans hgg, rest⟩
theorem HT.st3 {B lo : Nat} {W : World} {v : Value} {ds : List Nd} (h : HT B lo W v ds) {g : Nat} (hg : g < lo) (x y z : Value) : HT B lo (((W.setCell ⟨g, 0, none⟩ x).setCell ⟨g, 1, none⟩ y).setCell ⟨g, 2, none⟩ z) v ds := ((h.st hg 0 x).st hg 1 y).st hg 2 z
/-- One node more, which a call made. -/
theorem HT.snoc {w W W' : World} {lo : Nat} {v : Value} {ds : List Nd} {d : Nd} {c0 c1 c2 : Value} {V : List (Nat × TypeId × Array Value)} (h : HT w.heap.size lo W v ds) (hb : Below W.heap.size W W') (hd : IsT W' W.heap.size W'.heap.size d (.agg #[c0, c1, c2])) (hS : St w W' V) (hlo : lo ≤ W.heap.size) (hV : ∀ x ∈ V, x.1 < lo ∨ v.ownBlock ≠ some x.1) (hl : ds.length + 1 ≤ 1000000) :
    ∃ v' w', (Builtin.append_ #[23, 23] 23 #[v, .slice (some ⟨W'.heap.size, 0, none⟩) 1 1]).run Try.prog (W'.alloc (.cells #[c0, c1, c2] 25)) = .ok v' w' ∧ HT w.heap.size lo w' v' (ds ++ [d]) ∧ St w w' V ∧ (∀ g, v'.ownBlock = some g → v.ownBlock = some g ∨ W'.heap.size ≤ g) := by
  obtain ⟨xs, hi, h1, h2, h3, h4⟩ := h
  have hsz := hb.size
  have h1' := own_below h1 hb
  have h2' : RowT W' (fun k => v.ownBlock = some k) lo hi xs ds := h2.keep (Nat.le_refl _) (fun k e1 e2 h5 => ⟨hb.block k (by omega), h5⟩)
  have hbl := Blk.new W' 25 #[c0, c1, c2]
  obtain ⟨k0, k1, k2⟩ := hd.cells
  obtain ⟨v', w', hr, hown, hg, hblk⟩ := append_run (h1'.alloc _) W'.heap.size 0 1 1 [c0, c1, c2] rfl (fun j u hu => by rw [Nat.zero_add, hbl.cell j]; simpa using hu) (by simp [k0, k1, k2]) hl (by omega) (by simp; have := hS.below.size; omega)
  have hsz' := hg.size
  simp at hsz'
  have hkeep : ∀ k, k < W'.heap.size → v.ownBlock ≠ some k → w'.heap[k]? = W'.heap[k]? := fun k hk hne => (hg.block k (by simp; omega) (fun e => hne e.symm)).trans (Below.heap_alloc W' _ k hk)
  have hbk : ∀ g, v'.ownBlock = some g → v.ownBlock = some g ∨ W'.heap.size ≤ g := fun g e => (hblk g e).imp id (fun h => by simp at h; omega)
  have hold : ∀ g, v.ownBlock = some g → g < W.heap.size := fun g e => (h1.lt g e).2
  have hnP : ∀ k, k < W'.heap.size → v.ownBlock ≠ some k → ¬ v'.ownBlock = some k := fun k hk hne e => by
    rcases hbk k e with h | h
    · exact hne h
    · omega
  refine ⟨v', w', hr, ⟨xs ++ [c0, c1, c2], W'.heap.size, by rw [List.length_append]; exact hown, ?_, by omega, fun g e => ?_⟩, ⟨(bl_al hS.below _).grown hg (by simp; have := hS.below.size; omega) (fun r hr => (h1.lt r hr).1), fun x hx => ⟨(hS.vars x hx).1, ?_⟩, hS.nodup⟩, hbk⟩
  · refine RowT.snoc hsz (fun k e1 e2 => hnP k e2 (fun e => by have := hold k e; omega)) (IsT.keep d _ _ _ _ _ (Nat.le_refl _) (Nat.le_refl _) (fun k e1 e2 => hkeep k e2 (fun e => by have := hold k e; omega)) hd) h3 (h2'.keep (Nat.le_refl _) (fun k e1 e2 e3 => ⟨hkeep k (by omega) e3, hnP k (by omega) e3⟩))
  · rcases hbk g e with h | h
    · exact h4 g h
    · omega
  · refine ((hS.vars x hx).2.alloc _).grown hg (fun e => ?_)
    rcases hV x hx with h | h
    · have := h4 x.1 e.symm
      omega
    · exact h e.symm
/-- The node of such a row. -/
theorem HT.node {B lo : Nat} {W : World} {v : Value} {ds : List Nd} {k : Int} {s : ByteArray} {lo' : Nat} (h : HT B lo W v ds) (hk : -9223372036854775808 ≤ k ∧ k ≤ 9223372036854775807) (hs : s.size ≤ maxLen) (hlo : lo' ≤ lo) : IsT W lo' W.heap.size (Nd.of k s ds) (.agg #[.int .i64 k, .string s, v]) := by
  obtain ⟨xs, hi, h1, h2, h3, h4⟩ := h
  have hc := h1
  have hlen := RowT.length h2
  rw [Nd.of, IsT, Nds.len_ofL]
  rcases h1.2 with ⟨rfl, hn⟩ | ⟨g, cap, cur, rfl, hbg, hg, hnc, hcm, _⟩
  · exact ⟨none, 0, by rw [hn], hk, hs, by omega, fun hne => absurd hn hne⟩
  · refine ⟨some ⟨g, 0, none⟩, cap, rfl, hk, hs, by omega, fun _ => ⟨g, cur, rfl, by have := h4 g rfl; omega, (Array.getElem?_eq_some_iff.1 hg).1, hg, ?_⟩⟩
    refine IsTs.keep _ lo hi lo' _ 0 g hlo h3 (fun _ _ _ _ => rfl) (fun _ => rfl) (RowT.ts (P := fun k => (Value.slice (some ⟨g, 0, none⟩) ds.length cap).ownBlock = some k) rfl (fun j u hu => ?_) h2)
    have hj : j < ds.length * 3 := by
      have := (List.getElem?_eq_some_iff.1 hu).1
      rwa [hlen] at this
    rw [Nat.zero_add, hc.cellAt j hj, hu]
end Go.Proofs.Ytacgmmpdichlmaa
namespace Go.Proofs.Ytacgmmpdichlmaa
open Go.RowKit
attribute [local go_sem ↓] Go.wp_at_zero Go.wp_at_succ

/-- The call hands back a node in new memory, its rows apart. -/
def NdT (w : World) (d : Nd) (e : Ending) (w' : World) : Prop := ∃ (k : Int) (s : ByteArray) (y : Option Addr) (m c : Nat), e = .returned (.agg #[.int .i64 k, .string s, .slice y m c]) ∧ IsT w' w.heap.size w'.heap.size d (.agg #[.int .i64 k, .string s, .slice y m c]) ∧ Below w.heap.size w w'
def CopyTOk (d : Nd) : Prop := ∀ (v : Value) (w : World), Is w d v → d.count ≤ 900000 → Calls Try.prog 36 #[v] w (NdT w d)
theorem HT.rowof {B lo : Nat} {W : World} {ds : List Nd} {q n c : Nat} {y : Option Addr} (h : q < ds.length) (hx : HT B lo W (.slice y n c) (ds.take q ++ [ds[q]])) : Value.slice y n c = .slice y (q + 1) c ∧ HT B lo W (.slice y (q + 1) c) (ds.take (q + 1)) := by
  have hf := hx.form
  rw [take_snoc h] at hf hx
  obtain ⟨a, c', hf⟩ := hf
  cases hf
  have : (ds.take (q + 1)).length = q + 1 := by rw [List.length_take]; omega
  rw [this] at hx
  exact ⟨by rw [this], hx⟩
set_option maxRecDepth 100000 in
set_option maxHeartbeats 4000000 in
theorem copyT_any (d : Nd) : CopyTOk d := by
  refine Nd.ind_ (P := CopyTOk) ?_ d
  intro k s ks IH v w hD hcnt
  obtain ⟨x, rfl, hk, hs, hsl⟩ := hD.split
  have HSL := hide hsl
  have HIH := hide IH
  obtain ⟨a1, c1, rfl, hm1, -⟩ := hsl
  simp only [maxLen] at hm1
  rw [count_mk] at hcnt
  have hlc := len_count ks
  have HCM := hide (fun d h => Nat.le_trans (count_mem (ks := ks) (d := d) h) (show ks.count ≤ 900000 by omega))
  have HOF := hide (Nd.of_kids k s ks)
  clear hD IH
  obtain ⟨ds, hds⟩ : ∃ ds, ks.toL = ds := ⟨_, rfl⟩
  rw [hds] at HSL HIH HCM HOF hm1 hlc ⊢
  clear hds
  go_enter Try.func36, Try.ntmps36
  go_wp2_with fail
  refine namedWp fun W1 hW1 => ?_
  have HS1 := hide (show St w W1 [ne w.heap.size k s a1 ds.length c1, nz (w.heap.size + 1)] from St.onto hW1 (((St.nil w).var 25 _ (by simp)).var 25 _ (by simp)))
  have hz1 : W1.heap.size = w.heap.size + 2 := by rw [hW1]; simp
  have HZ1 := hide hz1
  clear hW1 hz1
  go_loopw [3, 9] (fun lv i wr => ∃ (q : Nat) (y : Option Addr) (c : Nat), lv = .slice y q c ∧ q ≤ ds.length ∧ i = .int .i64 q ∧ St w wr [ne w.heap.size k s a1 ds.length c1, nz (w.heap.size + 1)] ∧ HT w.heap.size (w.heap.size + 2) wr (.slice y q c) (ds.take q)) (fun _ i _ => ds.length - (intOf i).toNat)
  case atStart => exact ⟨0, none, 0, rfl, Nat.zero_le _, rfl, HS1.out, HT.nil (by rw [HZ1.out]; exact Nat.le_refl _)⟩
  obtain ⟨q, y, c, rfl, hq, rfl, hS, hH⟩ := hrel
  have HSr := hide hS
  have HRk := hide hH
  clear hS hH HS1
  by_cases hlt : q < ds.length
  ·
   have hlti : (q : Int) < (ds.length : Int) := by omega
   obtain ⟨b, o, cap2, k1, s1, y1, m1, e1, hv, hFb, g0, g1, g2, hc⟩ := HSL.out.kid hlt
   cases hv
   have HC := hide hc
   clear hc
   replace g0 := (Below.cell HSr.out.below (p := ⟨b, o + q * 3, none⟩) hFb).trans g0
   replace g1 := (Below.cell HSr.out.below (p := ⟨b, o + q * 3 + 1, none⟩) hFb).trans g1
   replace g2 := (Below.cell HSr.out.below (p := ⟨b, o + q * 3 + 2, none⟩) hFb).trans g2
   have p0 := (HSr.out.get 0 rfl).see3
   have p1 := (HSr.out.get 1 rfl).see3
   go_wp2_with fail
   have lv2_0 := (HSr.out.get 0 rfl).lt
   have lv2_1 := (HSr.out.get 1 rfl).lt
   refine named fun W2 hW2 => ?_
   have HS2 := hide (show St w W2 [ne w.heap.size k s (some ⟨b, o, none⟩) ds.length c1, nz (w.heap.size + 1), ne wr.heap.size k1 s1 y1 m1 e1] from St.onto hW2 (HSr.out.var 25 _ (by simp)))
   have HRl2 := hide (show HT w.heap.size (w.heap.size + 2) W2 (.slice y q c) (ds.take q) from HT.onto hW2 (HRk.out.al _))
   have HNV := hide (show ∀ x ∈ [ne w.heap.size k s (some ⟨b, o, none⟩) ds.length c1, nz (w.heap.size + 1), ne wr.heap.size k1 s1 y1 m1 e1], x.1 < w.heap.size + 2 ∨ (Value.slice y q c).ownBlock ≠ some x.1 from by
     have hol : ∀ g, (Value.slice y q c).ownBlock = some g → g < wr.heap.size := fun g e => by
       obtain ⟨xs, hi, h1, _⟩ := HRk.out
       exact (h1.lt g e).2
     intro x hx
     simp only [List.mem_cons, List.not_mem_nil, or_false] at hx
     rcases hx with rfl | rfl | rfl
     · exact Or.inl (show w.heap.size < w.heap.size + 2 by omega)
     · exact Or.inl (show w.heap.size + 1 < w.heap.size + 2 by omega)
     · exact Or.inr (fun e => Nat.lt_irrefl _ (hol _ e)))
   clear HRk
   clear hW2 HSr
   clear p0 p1
   have hI1 : Is W2 ds[q] _ := HC.out.below (HS2.out.below) HS2.out.below.size
   refine (HIH.out ds[q] (List.getElem_mem hlt) _ _ hI1 (HCM.out _ (List.getElem_mem hlt))).mono ?_
   rintro e w3 ⟨k3, s3, y3, m3, c3, rfl, hn3, hb3⟩
   have HS3 := hide (HS2.out.call hb3)
   have hlo : w.heap.size + 2 ≤ W2.heap.size := (HS2.out.get 1 rfl).lt
   obtain ⟨v4, w4, hr4, hH4, hS4, -⟩ := HRl2.out.snoc hb3 hn3 HS3.out hlo HNV.out (by rw [List.length_take]; omega)
   have p0 := (HS3.out.get 0 rfl).see3
   have p1 := (HS3.out.get 1 rfl).see3
   have p2 := (HS3.out.get 2 rfl).see3
   clear hI1 g0 g1 g2 hn3 hb3 HS2 HRl2
   have lv4_0 := (HS3.out.get 0 rfl).lt
   have lv4_1 := (HS3.out.get 1 rfl).lt
   have lv4_2 := (HS3.out.get 2 rfl).lt
   obtain ⟨y4, n4, c4, rfl⟩ := hH4.form'
   obtain ⟨hf4, hH4⟩ := HT.rowof hlt hH4
   clear HS3
   have HS4 := hide hS4
   have HRl4 := hide hH4
   have HF4 := hide hf4
   clear hS4 hH4 hf4
   have rr0 := (HS4.out.get 0 rfl).see3
   have rr1 := (HS4.out.get 1 rfl).see3
   have rr2 := (HS4.out.get 2 rfl).see3
   go_wp2_with (at_builtin; refine wpList_append_run rfl _ _ (by rfl) (by rfl) (by rfl) (by rfl) hr4 ?_)
   clear hr4 p0 p1 p2
   exact ⟨⟨q + 1, y4, c4, HF4.out, by omega, by go_num, HS4.out.cut 2 rfl, HRl4.out⟩, by simp [intOf]; omega⟩
  have p0 := (HSr.out.get 0 rfl).see3
  have p1 := (HSr.out.get 1 rfl).see3
  have hlti : ¬ (q : Int) < (ds.length : Int) := by omega
  obtain rfl : q = ds.length := by omega
  go_wp2_with fail
  refine namedPost fun W5 hW5 => ?_
  have HS5 := hide (show St w W5 [ne w.heap.size k s y ds.length c, ne (w.heap.size + 1) k s y ds.length c] from St.onto hW5 ((HSr.out.st 0 rfl 2 _).st3 1 rfl _ _ _))
  have HRl5 := hide (HT.onto hW5 ((HRk.out.st (by omega) _ _).st3 (by omega) _ _ _))
  clear HRk
  clear hW5 HSr
  clear p0 p1
  have hN := HT.node (k := k) (s := s) (lo' := w.heap.size) HRl5.out hk hs (by omega)
  rw [List.take_length, HOF.out] at hN
  exact ended_n rfl rfl (HS5.out.get 1 rfl) ⟨_, _, _, _, _, rfl, hN, HS5.out.below⟩
end Go.Proofs.Ytacgmmpdichlmaa
namespace Go.Proofs.Ytacgmmpdichlmaa
open Go.RowKit
attribute [local go_sem ↓] Go.wp_at_zero Go.wp_at_succ

/-- A bracket is opened. -/
def openN : Nd → Nd
  | .mk k s ks => bareOf k s ks
theorem bareN_open (k : Int) (s : ByteArray) (ks : Nds) : bareN (.mk k s ks) = openN (Nd.of k s (ks.toL.map bareN)) := by
  rw [Nd.of, openN, bareN, ← bareNs_toL, Nds.ofL_toL]
theorem open_no {d : Nd} (h : d.br = false) : openN d = d := by
  obtain ⟨k, s, ks⟩ := d
  rw [openN, bareOf_no h]
theorem open_yes {d : Nd} (h : d.br = true) : ∃ h : 0 < d.kids.length, openN d = d.kids[0] := by
  obtain ⟨k, s, ks⟩ := d
  obtain ⟨rfl, x, rfl⟩ := isBr_of h
  exact ⟨by simp [Nd.kids, Nds.toL], by rw [openN, bareOf, if_pos rfl]; rfl⟩
/-- The function that opens. -/
theorem open_any {F : Nat → Prop} {d : Nd} {k : Int} {s : ByteArray} {y : Option Addr} {m c : Nat} {w : World} (hF : ∀ b, F b → b < w.heap.size) (hD : IsNd w F d (.agg #[.int .i64 k, .string s, .slice y m c])) :
    Calls Try.prog 33 #[.agg #[.int .i64 k, .string s, .slice y m c]] w fun e w' => ∃ (k' : Int) (s' : ByteArray) (y' : Option Addr) (m' c' : Nat), e = .returned (.agg #[.int .i64 k', .string s', .slice y' m' c']) ∧ IsNd w F (openN d) (.agg #[.int .i64 k', .string s', .slice y' m' c']) ∧ Below w.heap.size w w' := by
  obtain ⟨hm, hml, hsl, -, -⟩ := hD.out
  simp only [maxLen] at hml
  rw [← hm] at hml
  have HD := hide hD
  obtain ⟨W, hW⟩ : ∃ W, (w.alloc (.cells #[.int .i64 k, .string s, .slice y m c] 25)).alloc (.cells #[.int .i64 0, .string ⟨#[]⟩, .slice none 0 0] 25) = W := ⟨_, rfl⟩
  have HS := hide (show St w W [ne w.heap.size k s y m c, nz (w.heap.size + 1)] from St.onto hW.symm (((St.nil w).var 25 _ (by simp)).var 25 _ (by simp)))
  have HC := hide (bracketB_any (w := W) (F := F) (IsNd.keep (fun b hb => ⟨hb, HS.out.below.block b (hF b hb)⟩) _ _ hD))
  clear hD
  cases hbr : d.br
  case false =>
   rw [hbr] at HC
   rw [open_no hbr]
   have p0 := (HS.out.get 0 rfl).see3
   have p1 := (HS.out.get 1 rfl).see3
   clear hsl hm
   go_enter Try.func33, Try.ntmps33
   go_wp2_with fail
   refine HC.out.mono ?_
   rintro e w1 ⟨rfl, hb1⟩
   have HS1 := hide (HS.out.call hb1)
   have q0 := (HS1.out.get 0 rfl).see3
   have q1 := (HS1.out.get 1 rfl).see3
   clear p0 p1 hW hb1
   go_wp2_with fail
   exact ended_n rfl rfl ((HS1.out.st3 1 rfl _ _ _).get 1 rfl) ⟨_, _, _, _, _, rfl, HD.out, (HS1.out.st3 1 rfl _ _ _).below⟩
  rw [hbr] at HC
  obtain ⟨hpos, ho⟩ := open_yes hbr
  rw [ho]
  obtain ⟨b, o, cap2, k1, s1, y1, m1, e1, hv, hFb, g0, g1, g2, hc⟩ := hsl.kid hpos
  rw [← hm] at hv
  cases hv
  have HK := hide hc
  have hmp : 0 < m := by omega
  have p0 := (HS.out.get 0 rfl).see3
  have p1 := (HS.out.get 1 rfl).see3
  clear hsl hm hc
  go_enter Try.func33, Try.ntmps33
  go_wp2_with fail
  refine HC.out.mono ?_
  rintro e w1 ⟨rfl, hb1⟩
  have HS1 := hide (HS.out.call hb1)
  have q0 := (HS1.out.get 0 rfl).see3
  have q1 := (HS1.out.get 1 rfl).see3
  simp only [Nat.zero_mul, Nat.add_zero] at g0 g1 g2
  replace g0 := (Below.cell HS1.out.below (p := ⟨b, o, none⟩) (hF b hFb)).trans g0
  replace g1 := (Below.cell HS1.out.below (p := ⟨b, o + 1, none⟩) (hF b hFb)).trans g1
  replace g2 := (Below.cell HS1.out.below (p := ⟨b, o + 2, none⟩) (hF b hFb)).trans g2
  clear p0 p1 hW hb1
  go_wp2_with fail
  exact ended_n rfl rfl ((HS1.out.st3 1 rfl _ _ _).get 1 rfl) ⟨_, _, _, _, _, rfl, HK.out, (HS1.out.st3 1 rfl _ _ _).below⟩
def TurnOk (d : Nd) : Prop := ∀ (v : Value) (w : World), Is w d v → d.count ≤ 900000 → Calls Try.prog 32 #[v, .func (.func 33) #[] #[]] w (NdNew w (bareN d))
set_option maxRecDepth 100000 in
set_option maxHeartbeats 4000000 in
theorem turn_any (d : Nd) : TurnOk d := by
  refine Nd.ind_ (P := TurnOk) ?_ d
  intro k s ks IH v w hD hcnt
  rw [bareN_open]
  obtain ⟨x, rfl, hk, hs, hsl⟩ := hD.split
  have HSL := hide hsl
  have HIH := hide IH
  obtain ⟨a1, c1, rfl, hm1, -⟩ := hsl
  simp only [maxLen] at hm1
  rw [count_mk] at hcnt
  have hlc := len_count ks
  have HCM := hide (fun d h => Nat.le_trans (count_mem (ks := ks) (d := d) h) (show ks.count ≤ 900000 by omega))
  clear hD IH
  obtain ⟨ds, hds⟩ : ∃ ds, ks.toL = ds := ⟨_, rfl⟩
  rw [hds] at HSL HIH HCM hm1 hlc ⊢
  clear hds
  go_enter Try.func32, Try.ntmps32
  go_wp2_with fail
  refine namedWp fun W1 hW1 => ?_
  have HS1 := hide (show St w W1 [ne w.heap.size k s a1 ds.length c1, nz (w.heap.size + 1)] from St.onto hW1 (((St.nil w).var 25 _ (by simp)).var 25 _ (by simp)))
  clear hW1
  go_loopw [5, 11] (fun lv i wr => ∃ (q : Nat) (y : Option Addr) (c : Nat), lv = .slice y q c ∧ q ≤ ds.length ∧ i = .int .i64 q ∧ St w wr [ne w.heap.size k s a1 ds.length c1, nz (w.heap.size + 1)] ∧ Hx w wr [w.heap.size, w.heap.size + 1] (.slice y q c) ((ds.map bareN).take q)) (fun _ i _ => ds.length - (intOf i).toNat)
  case atStart => exact ⟨0, none, 0, rfl, Nat.zero_le _, rfl, HS1.out, Hx.nil _ _ _⟩
  obtain ⟨q, y, c, rfl, hq, rfl, hS, hH⟩ := hrel
  have HSr := hide hS
  have HRk := hide hH
  clear hS hH HS1
  by_cases hlt : q < ds.length
  ·
   have hlti : (q : Int) < (ds.length : Int) := by omega
   obtain ⟨b, o, cap2, k1, s1, y1, m1, e1, hv, hFb, g0, g1, g2, hc⟩ := HSL.out.kid hlt
   cases hv
   have HC := hide hc
   clear hc
   replace g0 := (Below.cell HSr.out.below (p := ⟨b, o + q * 3, none⟩) hFb).trans g0
   replace g1 := (Below.cell HSr.out.below (p := ⟨b, o + q * 3 + 1, none⟩) hFb).trans g1
   replace g2 := (Below.cell HSr.out.below (p := ⟨b, o + q * 3 + 2, none⟩) hFb).trans g2
   have p0 := (HSr.out.get 0 rfl).see3
   have p1 := (HSr.out.get 1 rfl).see3
   go_wp2_with fail
   have lv2_0 := (HSr.out.get 0 rfl).lt
   have lv2_1 := (HSr.out.get 1 rfl).lt
   refine named fun W2 hW2 => ?_
   have HS2 := hide (show St w W2 [ne w.heap.size k s (some ⟨b, o, none⟩) ds.length c1, nz (w.heap.size + 1), ne wr.heap.size k1 s1 y1 m1 e1] from St.onto hW2 (HSr.out.var 25 _ (by simp)))
   have HRl2 := hide (Px.onto hW2 (HRk.out.var (g := wr.heap.size) (by simp) _))
   clear HRk
   clear hW2 HSr
   clear p0 p1
   have hI1 : Is W2 ds[q] _ := HC.out.below (HS2.out.below) HS2.out.below.size
   refine (HIH.out ds[q] (List.getElem_mem hlt) _ _ hI1 (HCM.out _ (List.getElem_mem hlt))).mono ?_
   rintro e w3 ⟨k3, s3, y3, m3, c3, rfl, hn3, hb3⟩
   have HS3 := hide (HS2.out.call hb3)
   have HRl3 := hide (Px.made HRl2.out hn3 hb3 HS2.out rfl)
   clear HRl2
   clear hn3 hb3 HS2
   have p0 := (HS3.out.get 0 rfl).see3
   have p1 := (HS3.out.get 1 rfl).see3
   have p2 := (HS3.out.get 2 rfl).see3
   clear hI1 g0 g1 g2
   have lv4_0 := (HS3.out.get 0 rfl).lt
   have lv4_1 := (HS3.out.get 1 rfl).lt
   have lv4_2 := (HS3.out.get 2 rfl).lt
   have hSt4 : St w w3 [ne w.heap.size k s (some ⟨b, o, none⟩) ds.length c1, nz (w.heap.size + 1), ne wr.heap.size k1 s1 y1 m1 e1] := HS3.out
   have hPx4 : Px w w3 [w.heap.size, w.heap.size + 1, wr.heap.size] (.slice y q c) ((ds.map bareN).take q) [(bareN ds[q])] [.int .i64 k3, .string s3, .slice y3 m3 c3] := HRl3.out
   obtain ⟨v4, w4, hr4, hH4, hS4⟩ := hPx4.snoc hSt4 rfl (by rw [List.length_take]; simp; omega) (by simp)
   simp only [List.length_cons, List.length_nil, Nat.zero_add] at hr4
   obtain ⟨y4, n4, c4, rfl⟩ := hH4.form'
   clear hSt4 hPx4 HS3 HRl3
   have HS4 := hide hS4
   have HRl4 := hide hH4
   clear hS4 hH4
   have rr0 := (HS4.out.get 0 rfl).see3
   have rr1 := (HS4.out.get 1 rfl).see3
   have rr2 := (HS4.out.get 2 rfl).see3
   go_wp2_with (at_builtin; refine wpList_append_run rfl _ _ (by rfl) (by rfl) (by rfl) (by rfl) hr4 ?_)
   clear hr4 p0 p1 p2
   have hltm : q < (ds.map bareN).length := by rw [List.length_map]; exact hlt
   have hbq : bareN ds[q] = (ds.map bareN)[q] := by rw [List.getElem_map]
   have hHq := HRl4.out
   rw [hbq] at hHq
   exact ⟨⟨q + 1, y4, c4, rowlen_eq hltm hHq, by omega, by go_num, HS4.out.cut 2 rfl, rowof hltm (hHq.fewer (by simp))⟩, by simp [intOf]; omega⟩
  have p0 := (HSr.out.get 0 rfl).see3
  have p1 := (HSr.out.get 1 rfl).see3
  have hlti : ¬ (q : Int) < (ds.length : Int) := by omega
  obtain rfl : q = ds.length := by omega
  go_wp2_with fail
  refine named fun W5 hW5 => ?_
  have HS5 := hide (show St w W5 [ne w.heap.size k s y ds.length c, nz (w.heap.size + 1)] from St.onto hW5 (HSr.out.st 0 rfl 2 _))
  have HRl5 := hide (Px.onto hW5 (HRk.out.st (by simp) _ _))
  clear HRk
  clear hW5 HSr
  clear p0 p1
  have hN := Px.node (k := k) (s := s) HRl5.out hk hs
  rw [show (ds.map bareN).take ds.length = ds.map bareN by rw [List.take_of_length_le (by rw [List.length_map]; omega)]] at hN
  refine (open_any (F := Nf w W5 [w.heap.size, w.heap.size + 1]) (fun b hb => hb.2.1) hN).mono ?_
  rintro e w9 ⟨k9, s9, y9, m9, c9, rfl, hn9, hb9⟩
  have HS9 := hide (HS5.out.call hb9)
  have HN9 := hide (Nx.call hn9 hb9)
  clear hN hn9 hb9 HS5
  have r0 := (HS9.out.get 0 rfl).see3
  have r1 := (HS9.out.get 1 rfl).see3
  go_wp2_with fail
  exact ended_n rfl rfl ((HS9.out.st3 1 rfl _ _ _).get 1 rfl) ⟨_, _, _, _, _, rfl, (Nx.st3 HN9.out (by simp) _ _ _).out, (HS9.out.st3 1 rfl _ _ _).below⟩

set_option maxHeartbeats 4000000 in
theorem bare_any {d : Nd} {v : Value} {w : World} (hD : Is w d v) (hcnt : d.count ≤ 900000) : Calls Try.prog 19 #[v] w (NdNew w (bareN d)) := by
  obtain ⟨k, s, y, m, c, rfl⟩ := hD.form
  obtain ⟨W, hW⟩ : ∃ W, (w.alloc (.cells #[.int .i64 k, .string s, .slice y m c] 25)).alloc (.cells #[.int .i64 0, .string ⟨#[]⟩, .slice none 0 0] 25) = W := ⟨_, rfl⟩
  have HS := hide (show St w W [ne w.heap.size k s y m c, nz (w.heap.size + 1)] from St.onto hW.symm (((St.nil w).var 25 _ (by simp)).var 25 _ (by simp)))
  have HC := hide (turn_any d _ W (hD.below HS.out.below) hcnt)
  have p0 := (HS.out.get 0 rfl).see3
  have p1 := (HS.out.get 1 rfl).see3
  clear hD
  go_enter Try.func19, Try.ntmps19
  go_wp2_with fail
  refine HC.out.mono ?_
  rintro e w1 ⟨k1, s1, y1, m1, c1, rfl, hn1, hb1⟩
  have HS1 := hide (HS.out.call hb1)
  have q0 := (HS1.out.get 0 rfl).see3
  have q1 := (HS1.out.get 1 rfl).see3
  have HN := hide (show Nx w w1 [w.heap.size, w.heap.size + 1] (bareN d) _ from Nx.made hn1 HS.out)
  clear p0 p1 hW hb1 hn1
  go_wp2_with fail
  exact ended_n rfl rfl ((HS1.out.st3 1 rfl _ _ _).get 1 rfl) ⟨_, _, _, _, _, rfl, (HN.out.st3 (by simp) _ _ _).out, (HS1.out.st3 1 rfl _ _ _).below⟩
end Go.Proofs.Ytacgmmpdichlmaa
namespace Go.Proofs.Ytacgmmpdichlmaa
open Go.RowKit
attribute [local go_sem ↓] Go.wp_at_zero Go.wp_at_succ

theorem IsNd.below_ {w w' : World} {B : Nat} {d : Nd} {v : Value} (h : IsNd w' (New B w') d v) (_ : Below w.heap.size w w') : Is w' d v := IsNd.keep (fun _ hb => ⟨hb.2, rfl⟩) _ _ h
theorem see6_ {W : World} {g g' : Nat} {t t' : TypeId} {a b c a' b' c' : Value} (h : Blk W g t #[a, b, c]) (h' : Blk W g' t' #[a', b', c']) : (W.cell? ⟨g, 0, none⟩ = some a) ∧ (W.cell? ⟨g, 1, none⟩ = some b) ∧ (W.cell? ⟨g, 2, none⟩ = some c) ∧ (W.cell? ⟨g', 0, none⟩ = some a') ∧ (W.cell? ⟨g', 1, none⟩ = some b') ∧ (W.cell? ⟨g', 2, none⟩ = some c') := ⟨h.cell 0, h.cell 1, h.cell 2, h'.cell 0, h'.cell 1, h'.cell 2⟩
set_option maxRecDepth 100000 in
set_option maxHeartbeats 4000000 in
theorem bareSame_any {d d' : Nd} {v v' : Value} {w : World} (hD : Is w d v) (hE : Is w d' v') (h1 : d.count ≤ 900000) (h2 : d'.count ≤ 900000) : Calls Try.prog 20 #[v, v'] w (Says (sameN (bareN d) (bareN d')) w) := by
  obtain ⟨k, s, y, m, c, rfl⟩ := hD.form
  obtain ⟨k', s', y', m', c', rfl⟩ := hE.form
  have HD := hide hD
  have HE := hide hE
  clear hD hE
  go_enter Try.func20, Try.ntmps20
  go_wp2_with fail
  refine namedWp fun W hW => ?_
  have HS := hide (show St w W [ne w.heap.size k s y m c, ne (w.heap.size + 1) k' s' y' m' c'] from St.onto hW (((St.nil w).var 25 _ (by simp)).var 25 _ (by simp)))
  clear hW
  refine wp_region_held_drew (S := fun w' => (w'.cell? ⟨w.heap.size, 0, none⟩ = some (.int .i64 k)) ∧ (w'.cell? ⟨w.heap.size, 1, none⟩ = some (.string s)) ∧ (w'.cell? ⟨w.heap.size, 2, none⟩ = some (.slice y m c)) ∧ (w'.cell? ⟨w.heap.size + 1, 0, none⟩ = some (.int .i64 k')) ∧ (w'.cell? ⟨w.heap.size + 1, 1, none⟩ = some (.string s')) ∧ (w'.cell? ⟨w.heap.size + 1, 2, none⟩ = some (.slice y' m' c'))) (by kernel_rfl) ?_ (fun hHeld => ?_)
  · exact see6_ (HS.out.get 0 rfl) (HS.out.get 1 rfl)
  refine namedAny fun W3 hW3 => ?_
  have HS3 := hide (St.onto hW3 HS.out.dr)
  clear hW3 HS
  have hSn := see6_ (HS3.out.get 0 rfl) (HS3.out.get 1 rfl)
  have HD3 := hide (HD.out.below HS3.out.below)
  have HE3 := hide (HE.out.below HS3.out.below)
  clear hHeld
  refine takeH (i := 0) (v := ?_) rfl (by kernel_rfl) (by kernel_rfl) (by kernel_rfl) (fun _ _ _ h => h) (by rfl) (by assumption) (fun w hSw => ?_) ?_; rotate_left
  · (try dsimp only at hSw); (try go_split_ands); go_simp; all_goals with_reducible rfl
  try simp only [Act.put, List.getElem_toArray, List.getElem_cons_zero, List.setIfInBounds_toArray, List.set_cons_zero, List.set_cons_succ]
  refine takeH (i := 2) (v := ?_) rfl (by kernel_rfl) (by kernel_rfl) (by kernel_rfl) (fun _ _ _ h => h) (by rfl) (by assumption) (fun w hSw => ?_) ?_; rotate_left
  · (try dsimp only at hSw); (try go_split_ands); go_simp; all_goals with_reducible rfl
  try simp only [Act.put, List.getElem_toArray, List.getElem_cons_zero, List.getElem_cons_succ, List.setIfInBounds_toArray, List.set_cons_zero, List.set_cons_succ]
  clear hSn
  refine wpAnyH_ready (rs := [1]) (by kernel_rfl) (by simp) ?_
  refine AllReadyH.cons rfl (fun K hK => ?_) AllReadyH.nil
  ·
    go_simp
    refine (bare_any (w := W3) (HD3.out) h1).mono ?_
    rintro e w4 ⟨k1, s1, y1, m1, c1, rfl, hn4, hb4⟩
    have HN1 := hide (hn4.below_ hb4)
    have HS4 := hide (HS3.out.call hb4)
    have HE4 := hide (HE3.out.below hb4)
    have hB4 := HS4.out.below
    clear hn4
    go_simp
    refine hK.out _ _ ?_ (fun hHeld => ?_)
    · exact see6_ (HS4.out.get 0 rfl) (HS4.out.get 1 rfl)
    clear hK K
    refine wpAnyH_ready (rs := [3]) (by kernel_rfl) (by simp) ?_
    refine AllReadyH.cons rfl (fun K hK => ?_) AllReadyH.nil
    go_simp
    refine (bare_any (w := w4) (HE4.out) h2).mono ?_
    rintro e w5 ⟨k2, s2, y2, m2, c2, rfl, hn5, hb5⟩
    have HN3 := hide (hn5.below_ hb5)
    have HN1' := hide (Is.below HN1.out hb5)
    have HS5 := hide (HS4.out.call hb5)
    clear hn5
    go_simp
    refine hK.out _ _ ?_ (fun hHeld => ?_)
    · exact see6_ (HS5.out.get 0 rfl) (HS5.out.get 1 rfl)
    clear hK K
    refine wpAnyH_ready (rs := [4]) (by kernel_rfl) (by simp) ?_
    refine AllReadyH.cons rfl (fun K hK => ?_) AllReadyH.nil
    go_simp
    refine (same_any (bareN d) (bareN d') _ _ w5 HN1'.out HN3.out).mono ?_
    rintro e w6 ⟨rfl, hb6⟩
    have HS6 := hide (HS5.out.call hb6)
    go_simp
    refine hK.out _ _ ?_ (fun hHeld => ?_)
    · exact see6_ (HS6.out.get 0 rfl) (HS6.out.get 1 rfl)
    clear hK K
    refine wpAnyH_ready (rs := [5]) (by kernel_rfl) (by simp) ?_
    refine AllReadyH.cons rfl (fun K hK => ?_) AllReadyH.nil
    go_simp
    refine hK.out _ _ ?_ (fun hHeld => ?_)
    · exact see6_ (HS6.out.get 0 rfl) (HS6.out.get 1 rfl)
    clear hK K
    refine wpAnyH_done (by kernel_rfl) ?_ _
    go_wp2_with fail
    go_ret
    exact ⟨rfl, HS6.out.below⟩
end Go.Proofs.Ytacgmmpdichlmaa
namespace Go.Proofs.Ytacgmmpdichlmaa
open Go.RowKit
attribute [local go_sem ↓] Go.wp_at_zero Go.wp_at_succ

def RefSameOk (d : Nd) : Prop := ∀ (d' : Nd) (v v' : Value) (w : World), Is w d v → Is w d' v' → Calls Try.prog 18 #[v, v'] w (Says (sameN d d') w)
set_option maxRecDepth 100000 in
set_option maxHeartbeats 4000000 in
theorem refSame_any (d : Nd) : RefSameOk d := by
  refine Nd.ind_ (P := RefSameOk) ?_ d
  intro k s ks IH d' v v' w hD hE
  obtain ⟨k', s', ks'⟩ := d'
  obtain ⟨x, rfl, hk, hs, hsl⟩ := hD.split
  obtain ⟨x', rfl, hk', hs', hsl'⟩ := hE.split
  have HSL := hide hsl
  have HSL' := hide hsl'
  have HIH := hide IH
  obtain ⟨a1, c1, rfl, hm1, -⟩ := hsl
  obtain ⟨a2, c2, rfl, hm2, -⟩ := hsl'
  simp only [maxLen] at hm1 hm2
  clear hD hE hs hs' IH
  unfold Says
  rw [show sameN (.mk k s ks) (.mk k' s' ks') = (decide (k = k') && decide (s = s') && sameL ks.toL ks'.toL) by rw [sameN, sameNs_L]]
  obtain ⟨ds, hds⟩ : ∃ ds, ks.toL = ds := ⟨_, rfl⟩
  obtain ⟨es, hes⟩ : ∃ es, ks'.toL = es := ⟨_, rfl⟩
  rw [hds] at HSL HIH hm1 ⊢
  rw [hes] at HSL' hm2 ⊢
  clear hds hes
  by_cases h1 : k = k'
  ·
   subst h1
   simp only [decide_true, Bool.true_and]
   by_cases h2 : s = s'
   ·
    subst h2
    simp only [decide_true, Bool.true_and]
    by_cases h3 : ds.length = es.length
    ·
     have HN := hide h3.symm
     rw [← h3] at hm2 HSL' ⊢
     have e0 : ((ds.length : Int) != (ds.length : Int)) = false := by simp
     clear h3
     go_enter Try.func18, Try.ntmps18
     go_wp2_with fail
     refine namedWp fun W1 hW1 => ?_
     have HS1 := hide (show St w W1 [ne w.heap.size k s a1 ds.length c1, ne (w.heap.size + 1) k s a2 ds.length c2] from St.onto hW1 (((St.nil w).var 25 _ (by simp)).var 25 _ (by simp)))
     clear hW1
     go_loopw [5] (fun i wr => ∃ q : Nat, q ≤ ds.length ∧ i = .int .i64 q ∧ St w wr [ne w.heap.size k s a1 ds.length c1, ne (w.heap.size + 1) k s a2 ds.length c2] ∧ sameL ds es = sameL (ds.drop q) (es.drop q)) (fun i _ => ds.length - (intOf i).toNat)
     case atStart => exact ⟨0, Nat.zero_le _, rfl, HS1.out, rfl⟩
     obtain ⟨q, hq, rfl, hS, hr⟩ := hrel
     have HR := hide hr
     have HSr := hide hS
     clear hS hr HS1
     by_cases hlt : q < ds.length
     ·
      have hlt' : q < es.length := by rw [HN.out]; exact hlt
      have hlti : (q : Int) < (ds.length : Int) := by omega
      obtain ⟨b, o, cap2, k1, s1, y1, m1, e1, hv, hFb, g0, g1, g2, hc⟩ := HSL.out.kid hlt
      obtain ⟨b', o', cap2', k2, s2, y2, m2, e2, hv', hFb', f0, f1, f2, he⟩ := HSL'.out.kid hlt'
      cases hv
      rw [HN.out] at hv'
      cases hv'
      have hdr : sameL (ds.drop q) (es.drop q) = (sameN ds[q] es[q] && sameL (ds.drop (q + 1)) (es.drop (q + 1))) := by rw [List.drop_eq_getElem_cons hlt, List.drop_eq_getElem_cons hlt', sameL]
      have HD := hide hdr
      have HC1 := hide hc
      have HC2 := hide he
      clear hdr hc he
      have hzr := HSr.out.below.size
      have hb1 : b < wr.heap.size := by omega
      have hb2 : b' < wr.heap.size := by omega
      have hlb1 : b < w.heap.size := hFb
      have hlb2 : b' < w.heap.size := hFb'
      have HCx0_0 := hide ((Below.cell HSr.out.below (p := ⟨b, o + q * 3, none⟩) (hlb1)).trans g0)
      have HCx1_0 := hide ((Below.cell HSr.out.below (p := ⟨b, o + q * 3 + 1, none⟩) (hlb1)).trans g1)
      have HCx2_0 := hide ((Below.cell HSr.out.below (p := ⟨b, o + q * 3 + 2, none⟩) (hlb1)).trans g2)
      have HCx3_0 := hide ((Below.cell HSr.out.below (p := ⟨b', o' + q * 3, none⟩) (hlb2)).trans f0)
      have HCx4_0 := hide ((Below.cell HSr.out.below (p := ⟨b', o' + q * 3 + 1, none⟩) (hlb2)).trans f1)
      have HCx5_0 := hide ((Below.cell HSr.out.below (p := ⟨b', o' + q * 3 + 2, none⟩) (hlb2)).trans f2)
      clear g0 g1 g2 f0 f1 f2
      have p0 := (HSr.out.get 0 rfl).see3
      have p1 := (HSr.out.get 1 rfl).see3
      go_wp2_with fail
      refine namedWp fun W2 hW2 => ?_
      have HS2 := hide (St.onto hW2 HSr.out)
      have HCx02 := hide (onto_cell hW2 HCx0_0.out)
      clear HCx0_0
      have HCx12 := hide (onto_cell hW2 HCx1_0.out)
      clear HCx1_0
      have HCx22 := hide (onto_cell hW2 HCx2_0.out)
      clear HCx2_0
      have HCx32 := hide (onto_cell hW2 HCx3_0.out)
      clear HCx3_0
      have HCx42 := hide (onto_cell hW2 HCx4_0.out)
      clear HCx4_0
      have HCx52 := hide (onto_cell hW2 HCx5_0.out)
      clear HCx5_0
      clear hW2 HSr
      clear p0 p1
      refine wp_region_held_drew (S := fun w' => (w'.cell? ⟨w.heap.size, 0, none⟩ = some (.int .i64 k) ∧ w'.cell? ⟨w.heap.size, 1, none⟩ = some (.string s) ∧ w'.cell? ⟨w.heap.size, 2, none⟩ = some (.slice (some ⟨b, o, none⟩) ds.length c1)) ∧ (w'.cell? ⟨w.heap.size + 1, 0, none⟩ = some (.int .i64 k) ∧ w'.cell? ⟨w.heap.size + 1, 1, none⟩ = some (.string s) ∧ w'.cell? ⟨w.heap.size + 1, 2, none⟩ = some (.slice (some ⟨b', o', none⟩) ds.length c2)) ∧ (w'.cell? ⟨b, o + q * 3, none⟩ = some (.int .i64 k1)) ∧ (w'.cell? ⟨b, o + q * 3 + 1, none⟩ = some (.string s1)) ∧ (w'.cell? ⟨b, o + q * 3 + 2, none⟩ = some (.slice y1 m1 e1)) ∧ (w'.cell? ⟨b', o' + q * 3, none⟩ = some (.int .i64 k2)) ∧ (w'.cell? ⟨b', o' + q * 3 + 1, none⟩ = some (.string s2)) ∧ (w'.cell? ⟨b', o' + q * 3 + 2, none⟩ = some (.slice y2 m2 e2))) (by kernel_rfl) ?_ (fun hHeld => ?_)
      · exact And.intro (St.cells HS2.out.dr 0 rfl) (And.intro (St.cells HS2.out.dr 1 rfl) (And.intro (HCx02.out) (And.intro (HCx12.out) (And.intro (HCx22.out) (And.intro (HCx32.out) (And.intro (HCx42.out) (HCx52.out)))))))
      refine namedAny fun W3 hW3 => ?_
      have HS3 := hide (St.onto hW3 HS2.out.dr)
      have HCx03 := hide (onto_cell hW3 (dr_cell HCx02.out))
      clear HCx02
      have HCx13 := hide (onto_cell hW3 (dr_cell HCx12.out))
      clear HCx12
      have HCx23 := hide (onto_cell hW3 (dr_cell HCx22.out))
      clear HCx22
      have HCx33 := hide (onto_cell hW3 (dr_cell HCx32.out))
      clear HCx32
      have HCx43 := hide (onto_cell hW3 (dr_cell HCx42.out))
      clear HCx42
      have HCx53 := hide (onto_cell hW3 (dr_cell HCx52.out))
      clear HCx52
      clear hW3 HS2
      have hSn := And.intro (St.cells HS3.out 0 rfl) (And.intro (St.cells HS3.out 1 rfl) (And.intro (HCx03.out) (And.intro (HCx13.out) (And.intro (HCx23.out) (And.intro (HCx33.out) (And.intro (HCx43.out) (HCx53.out)))))))
      clear hHeld
      refine takeH (i := 0) (v := ?_) rfl (by kernel_rfl) (by kernel_rfl) (by kernel_rfl) (fun _ _ _ h => h) (by rfl) (by assumption) (fun w hSw => ?_) ?_; rotate_left
      · (try dsimp only at hSw); (try go_split_ands); go_simp; all_goals with_reducible rfl
      try simp only [Act.put, List.getElem_toArray, List.getElem_cons_zero, List.setIfInBounds_toArray, List.set_cons_zero, List.set_cons_succ]
      refine takeH (i := 1) (v := ?_) rfl (by kernel_rfl) (by kernel_rfl) (by kernel_rfl) (fun _ _ _ h => h) (by rfl) (by assumption) (fun w hSw => ?_) ?_; rotate_left
      · (try dsimp only at hSw); (try go_split_ands); go_simp; all_goals with_reducible rfl
      try simp only [Act.put, List.getElem_toArray, List.getElem_cons_zero, List.getElem_cons_succ, List.setIfInBounds_toArray, List.set_cons_zero, List.set_cons_succ]
      refine takeH (i := 2) (v := ?_) rfl (by kernel_rfl) (by kernel_rfl) (by kernel_rfl) (fun _ _ _ h => h) (by rfl) (by assumption) (fun w hSw => ?_) ?_; rotate_left
      · (try dsimp only at hSw); (try go_split_ands); go_simp; all_goals with_reducible rfl
      try simp only [Act.put, List.getElem_toArray, List.getElem_cons_zero, List.getElem_cons_succ, List.setIfInBounds_toArray, List.set_cons_zero, List.set_cons_succ]
      refine takeH (i := 3) (v := ?_) rfl (by kernel_rfl) (by kernel_rfl) (by kernel_rfl) (fun _ _ _ h => h) (by rfl) (by assumption) (fun w hSw => ?_) ?_; rotate_left
      · (try dsimp only at hSw); (try go_split_ands); go_simp; all_goals with_reducible rfl
      try simp only [Act.put, List.getElem_toArray, List.getElem_cons_zero, List.getElem_cons_succ, List.setIfInBounds_toArray, List.set_cons_zero, List.set_cons_succ]
      refine takeH (i := 4) (v := ?_) rfl (by kernel_rfl) (by kernel_rfl) (by kernel_rfl) (fun _ _ _ h => h) (by rfl) (by assumption) (fun w hSw => ?_) ?_; rotate_left
      · (try dsimp only at hSw); (try go_split_ands); go_simp; all_goals with_reducible rfl
      try simp only [Act.put, List.getElem_toArray, List.getElem_cons_zero, List.getElem_cons_succ, List.setIfInBounds_toArray, List.set_cons_zero, List.set_cons_succ]
      refine takeH (i := 5) (v := ?_) rfl (by kernel_rfl) (by kernel_rfl) (by kernel_rfl) (fun _ _ _ h => h) (by rfl) (by assumption) (fun w hSw => ?_) ?_; rotate_left
      · (try dsimp only at hSw); (try go_split_ands); go_simp; all_goals with_reducible rfl
      try simp only [Act.put, List.getElem_toArray, List.getElem_cons_zero, List.getElem_cons_succ, List.setIfInBounds_toArray, List.set_cons_zero, List.set_cons_succ]
      refine takeH (i := 6) (v := ?_) rfl (by kernel_rfl) (by kernel_rfl) (by kernel_rfl) (fun _ _ _ h => h) (by rfl) (by assumption) (fun w hSw => ?_) ?_; rotate_left
      · (try dsimp only at hSw); (try go_split_ands); go_simp; all_goals with_reducible rfl
      try simp only [Act.put, List.getElem_toArray, List.getElem_cons_zero, List.getElem_cons_succ, List.setIfInBounds_toArray, List.set_cons_zero, List.set_cons_succ]
      refine takeH (i := 7) (v := ?_) rfl (by kernel_rfl) (by kernel_rfl) (by kernel_rfl) (fun _ _ _ h => h) (by rfl) (by assumption) (fun w hSw => ?_) ?_; rotate_left
      · (try dsimp only at hSw); (try go_split_ands); go_simp; all_goals with_reducible rfl
      try simp only [Act.put, List.getElem_toArray, List.getElem_cons_zero, List.getElem_cons_succ, List.setIfInBounds_toArray, List.set_cons_zero, List.set_cons_succ]
      refine takeH (i := 8) (v := ?_) rfl (by kernel_rfl) (by kernel_rfl) (by kernel_rfl) (fun _ _ _ h => h) (by rfl) (by assumption) (fun w hSw => ?_) ?_; rotate_left
      · (try dsimp only at hSw); (try go_split_ands); go_simp; all_goals with_reducible rfl
      try simp only [Act.put, List.getElem_toArray, List.getElem_cons_zero, List.getElem_cons_succ, List.setIfInBounds_toArray, List.set_cons_zero, List.set_cons_succ]
      refine takeH (i := 9) (v := ?_) rfl (by kernel_rfl) (by kernel_rfl) (by kernel_rfl) (fun _ _ _ h => h) (by rfl) (by assumption) (fun w hSw => ?_) ?_; rotate_left
      · (try dsimp only at hSw); (try go_split_ands); go_simp; all_goals with_reducible rfl
      try simp only [Act.put, List.getElem_toArray, List.getElem_cons_zero, List.getElem_cons_succ, List.setIfInBounds_toArray, List.set_cons_zero, List.set_cons_succ]
      refine wpAnyH_ready (rs := [10]) (by kernel_rfl) (by simp) ?_
      refine AllReadyH.cons rfl (fun K hK => ?_) (AllReadyH.nil)
      clear hSn
      go_simp
      have hI1 : Is W3 ds[q] _ := HC1.out.below (HS3.out.below) HS3.out.below.size
      have hI2 : Is W3 es[q] _ := HC2.out.below (HS3.out.below) HS3.out.below.size
      have hzw := HS3.out.below.size
      refine (HIH.out ds[q] (List.getElem_mem hlt) es[q] _ _ _ hI1 hI2).mono ?_
      rintro e w4 ⟨rfl, hb4⟩
      have HS4 := hide (HS3.out.call hb4)
      have HCx04 := hide ((Below.cell hb4 (p := ⟨b, o + q * 3, none⟩) (Nat.lt_of_lt_of_le hlb1 (by omega))).trans HCx03.out)
      clear HCx03
      have HCx14 := hide ((Below.cell hb4 (p := ⟨b, o + q * 3 + 1, none⟩) (Nat.lt_of_lt_of_le hlb1 (by omega))).trans HCx13.out)
      clear HCx13
      have HCx24 := hide ((Below.cell hb4 (p := ⟨b, o + q * 3 + 2, none⟩) (Nat.lt_of_lt_of_le hlb1 (by omega))).trans HCx23.out)
      clear HCx23
      have HCx34 := hide ((Below.cell hb4 (p := ⟨b', o' + q * 3, none⟩) (Nat.lt_of_lt_of_le hlb2 (by omega))).trans HCx33.out)
      clear HCx33
      have HCx44 := hide ((Below.cell hb4 (p := ⟨b', o' + q * 3 + 1, none⟩) (Nat.lt_of_lt_of_le hlb2 (by omega))).trans HCx43.out)
      clear HCx43
      have HCx54 := hide ((Below.cell hb4 (p := ⟨b', o' + q * 3 + 2, none⟩) (Nat.lt_of_lt_of_le hlb2 (by omega))).trans HCx53.out)
      clear HCx53
      clear hb4 HS3
      clear hI1 hI2 hzw
      go_simp
      refine hK.out _ _ ?_ (fun hHeld => ?_)
      · exact And.intro (St.cells HS4.out 0 rfl) (And.intro (St.cells HS4.out 1 rfl) (And.intro (HCx04.out) (And.intro (HCx14.out) (And.intro (HCx24.out) (And.intro (HCx34.out) (And.intro (HCx44.out) (HCx54.out)))))))
      clear hK K hHeld
      have hSn := And.intro (St.cells HS4.out 0 rfl) (And.intro (St.cells HS4.out 1 rfl) (And.intro (HCx04.out) (And.intro (HCx14.out) (And.intro (HCx24.out) (And.intro (HCx34.out) (And.intro (HCx44.out) (HCx54.out)))))))
      refine takeH (i := 11) (v := ?_) rfl (by kernel_rfl) (by kernel_rfl) (by kernel_rfl) (fun _ _ _ h => h) (by rfl) (by assumption) (fun w hSw => ?_) ?_; rotate_left
      · (try dsimp only at hSw); (try go_split_ands); go_simp; all_goals with_reducible rfl
      try simp only [Act.put, List.getElem_toArray, List.getElem_cons_zero, List.getElem_cons_succ, List.setIfInBounds_toArray, List.set_cons_zero, List.set_cons_succ]
      refine wpAnyH_done (by kernel_rfl) ?_ _
      clear hSn
      go_wp2_with fail
      all_goals
        rename_i hx
        first
          | (go_ret; exact ⟨by rw [HR.out, HD.out, show sameN ds[q] es[q] = false by simpa using hx]; rfl, HS4.out.below⟩)
          | exact ⟨⟨q + 1, by omega, by go_num, HS4.out, by rw [HR.out, HD.out, show sameN ds[q] es[q] = true by simpa using hx]; rfl⟩, by simp [intOf]; omega⟩
     have p0 := (HSr.out.get 0 rfl).see3
     have p1 := (HSr.out.get 1 rfl).see3
     have hlti : ¬ (q : Int) < (ds.length : Int) := by omega
     go_wp2_with fail
     go_ret
     exact ⟨by rw [HR.out, List.drop_eq_nil_of_le (by omega), List.drop_eq_nil_of_le (by rw [HN.out]; omega)]; rfl, HSr.out.below⟩
    have e0 : ((ds.length : Int) != (es.length : Int)) = true := bne_iff_ne.2 (by omega)
    have hle := sameL_len ds es h3
    have HL := hide hle
    clear hle h3
    go_enter Try.func18, Try.ntmps18
    go_wp2_with fail
    go_ret
    exact ⟨by rw [HL.out]; rfl, ((Below.refl _ w).alloc (Nat.le_refl _) _).alloc (by simp) _⟩
   simp only [decide_eq_false h2, Bool.false_and]
   have e3 : (s.toList != s'.toList) = true := by simpa using (fun e => h2 (bytesEq e))
   have e4 : (s.toList == s'.toList) = false := beq_eq_false_iff_ne.2 (fun e => h2 (bytesEq e))
   go_enter Try.func18, Try.ntmps18
   go_wp2_with fail
   go_ret
   exact ⟨rfl, ((Below.refl _ w).alloc (Nat.le_refl _) _).alloc (by simp) _⟩
  have e3 : (k != k') = true := by simpa using h1
  simp only [decide_eq_false h1, Bool.false_and]
  clear h1
  go_enter Try.func18, Try.ntmps18
  go_wp2_with fail
  go_ret
  exact ⟨rfl, ((Below.refl _ w).alloc (Nat.le_refl _) _).alloc (by simp) _⟩
end Go.Proofs.Ytacgmmpdichlmaa
namespace Go.Proofs.Ytacgmmpdichlmaa
open Go.RowKit
attribute [local go_sem ↓] Go.wp_at_zero Go.wp_at_succ

/-- What is laid at ⟨b, o⟩ makes the node of block g another one: as G says. -/
def Plug (B : Nat) (W : World) (g b o l m : Nat) (G : Nd → Nd) : Prop := ∀ (W' : World) (z : Nd) (u0 u1 u2 : Value), W.heap.size ≤ W'.heap.size → (∀ k, k < W.heap.size → k ≠ b → (k < l ∨ m ≤ k) → W'.heap[k]? = W.heap[k]?) → (∀ i, i < o ∨ o + 3 ≤ i → W'.cell? ⟨b, i, none⟩ = W.cell? ⟨b, i, none⟩) →
  W'.cell? ⟨b, o, none⟩ = some u0 → W'.cell? ⟨b, o + 1, none⟩ = some u1 → W'.cell? ⟨b, o + 2, none⟩ = some u2 → IsNd W' (New B W') z (.agg #[u0, u1, u2]) →
  ∃ v0 v1 v2, W'.cell? ⟨g, 0, none⟩ = some v0 ∧ W'.cell? ⟨g, 1, none⟩ = some v1 ∧ W'.cell? ⟨g, 2, none⟩ = some v2 ∧ IsNd W' (New B W') (G z) (.agg #[v0, v1, v2])
theorem Plug.start (B : Nat) (W : World) (g l m : Nat) : Plug B W g g 0 l m id := fun _ _ u0 u1 u2 _ _ _ h0 h1 h2 hz => ⟨u0, u1, u2, h0, h1, h2, hz⟩
/-- A place: its node's rows lie in the blocks from l on, below m. -/
structure Place (B : Nat) (W : World) (b o l m : Nat) (d : Nd) (k : Int) (s : ByteArray) (y : Option Addr) (n c : Nat) : Prop where
  new : B ≤ b
  blk : ∃ cs, Blk W b 25 cs
  c0 : W.cell? ⟨b, o, none⟩ = some (.int .i64 k)
  c1 : W.cell? ⟨b, o + 1, none⟩ = some (.string s)
  c2 : W.cell? ⟨b, o + 2, none⟩ = some (.slice y n c)
  nd : IsT W l m d (.agg #[.int .i64 k, .string s, .slice y n c])
  lo : B ≤ l
  hi : m ≤ W.heap.size
  out : b < l ∨ m ≤ b
theorem Place.step {B : Nat} {W : World} {g b o l m : Nat} {k : Int} {s : ByteArray} {ks : Nds} {y : Option Addr} {n c : Nat} {G : Nd → Nd} (h : Place B W b o l m (.mk k s ks) k s y n c) (hp : Plug B W g b o l m G) {j : Nat} {x : Nd} (hj : ks.toL[j]? = some x) :
    n = ks.len ∧ ∃ bb k' s' y' n' c' l' m', y = some ⟨bb, 0, none⟩ ∧ Place B W bb (j * 3) l' m' x k' s' y' n' c' ∧ Plug B W g bb (j * 3) l' m' fun z => G (Nd.of k s (ks.toL.set j z)) := by
  have hnd := h.nd
  have hlt := (List.getElem?_eq_some_iff.1 hj).1
  rw [Nds.len_toL] at hlt
  rw [IsT] at hnd
  obtain ⟨a, cap, h0, h1, h3, h4, h5⟩ := hnd
  cases h0
  obtain ⟨bb, cs, rfl, hb1, hb2, hbl, hk⟩ := h5 (by omega)
  obtain ⟨l', m', c0, c1, c2, e1, e2, e3, e4, g0, g1, g2, hx, hput⟩ := hk.put hj
  rw [Nat.zero_add] at g0 g1 g2 hput
  obtain ⟨k', s', y', n', c', hv⟩ := IsNd.form (IsT.nd (w' := W) (F := fun _ => True) x l' m' _ (fun _ _ _ => ⟨rfl, trivial⟩) hx)
  simp only [Value.agg.injEq, Array.mk.injEq, List.cons.injEq, and_true] at hv
  obtain ⟨rfl, rfl, rfl⟩ := hv
  have hlo := h.lo
  have hhi := h.hi
  have hout := h.out
  obtain ⟨cs0, hb0⟩ := h.blk
  have hlb := hb0.lt
  refine ⟨rfl, bb, k', s', y', n', c', l', m', rfl, ⟨by omega, ⟨cs, hbl⟩, g0, g1, g2, hx, by omega, by omega, e4⟩, fun W' z u0 u1 u2 hz hk1 hc f0 f1 f2 hzn => ?_⟩
  have hbsame : W'.heap[b]? = W.heap[b]? := hk1 b hlb (by omega) (by omega)
  have hcb : ∀ i, W'.cell? ⟨b, i, none⟩ = W.cell? ⟨b, i, none⟩ := fun i => World.cell?_of_block (w := W) (a := ⟨b, i, none⟩) hbsame
  refine hp W' (Nd.of k s (ks.toL.set j z)) _ _ _ hz (fun i hi hne ho => hk1 i hi (by omega) (by omega)) (fun i _ => hcb i) ((hcb o).trans h.c0) ((hcb (o + 1)).trans h.c1) ((hcb (o + 2)).trans h.c2) ?_
  rw [Nd.of, IsNd, Nds.len_ofL, List.length_set, Nds.len_toL]
  refine ⟨some ⟨bb, 0, none⟩, c, rfl, h1, h3, h4, fun _ => ⟨bb, 0, rfl, ⟨by omega, by omega⟩, hput W' (New B W') z u0 u1 u2 (fun i hi1 hi2 hi3 hi4 => ⟨hk1 i (by omega) hi3 hi4, by omega, by omega⟩) hc f0 f1 f2 hzn⟩⟩
/-- What is laid there. -/
theorem Place.lay {B : Nat} {W w2 : World} {g b o l m : Nat} {d z : Nd} {k : Int} {s : ByteArray} {y : Option Addr} {n c : Nat} {G : Nd → Nd} (h : Place B W b o l m d k s y n c) (hp : Plug B W g b o l m G) (hb : Below W.heap.size W w2) {u0 u1 u2 : Value} (hz : IsNd w2 (New W.heap.size w2) z (.agg #[u0, u1, u2])) (hB : B ≤ W.heap.size) {W' : World} (hW' : W' = ((w2.setCell ⟨b, o, none⟩ u0).setCell ⟨b, o + 1, none⟩ u1).setCell ⟨b, o + 2, none⟩ u2) :
    ∃ v0 v1 v2, W'.cell? ⟨g, 0, none⟩ = some v0 ∧ W'.cell? ⟨g, 1, none⟩ = some v1 ∧ W'.cell? ⟨g, 2, none⟩ = some v2 ∧ IsNd W' (New B W') (G z) (.agg #[v0, v1, v2]) := by
  subst hW'
  obtain ⟨cs, hbl⟩ := h.blk
  have hlb := hbl.lt
  have hc2 := hbl.cell (o + 2)
  rw [h.c2] at hc2
  have hsz : o + 2 < cs.size := (Array.getElem?_eq_some_iff.1 hc2.symm).1
  have hb3 := ((((hbl.below hb hlb).set_ o u0).set_ (o + 1) u1).set_ (o + 2) u2)
  have hother : ∀ i, i ≠ b → (((w2.setCell ⟨b, o, none⟩ u0).setCell ⟨b, o + 1, none⟩ u1).setCell ⟨b, o + 2, none⟩ u2).heap[i]? = w2.heap[i]? := fun i hi => (Below.heap_setCell _ ⟨b, o + 2, none⟩ u2 i (show i ≠ b from hi)).trans ((Below.heap_setCell _ ⟨b, o + 1, none⟩ u1 i (show i ≠ b from hi)).trans (Below.heap_setCell _ ⟨b, o, none⟩ u0 i (show i ≠ b from hi)))
  refine hp _ z u0 u1 u2 (by simpa using hb.size) (fun i hi hne _ => (hother i hne).trans (hb.block i hi)) (fun i hi => ?_) ?_ ?_ ?_ (IsNd.keep (fun i hi => ⟨⟨Nat.le_trans hB hi.1, by simpa using hi.2⟩, hother i (by have := hi.1; omega)⟩) _ _ hz)
  · rw [hb3.cell i, hbl.cell i, Array.getElem?_setIfInBounds_ne (by omega), Array.getElem?_setIfInBounds_ne (by omega), Array.getElem?_setIfInBounds_ne (by omega)]
  · rw [hb3.cell o, Array.getElem?_setIfInBounds_ne (by omega), Array.getElem?_setIfInBounds_ne (by omega), Array.getElem?_setIfInBounds_self_of_lt (by omega)]
  · rw [hb3.cell (o + 1), Array.getElem?_setIfInBounds_ne (by omega), Array.getElem?_setIfInBounds_self_of_lt (by simp; omega)]
  · rw [hb3.cell (o + 2), Array.getElem?_setIfInBounds_self_of_lt (by simp; omega)]
theorem withN_drop {x : Nd} {p : List Int} {q : Nat} (h : q < p.length) (k : Int) (s : ByteArray) (ks : Nds) : withN x (p.drop q) (.mk k s ks) = ((kidI ks.toL p[q]).bind (withN x (p.drop (q + 1)))).map fun z => Nd.of k s (ks.toL.set p[q].toNat z) := by
  rw [List.drop_eq_getElem_cons h, withN]

set_option maxRecDepth 100000 in
set_option maxHeartbeats 4000000 in
theorem with_any {d x : Nd} {v u z : Value} {p : List Int} {w : World} (hD : Is w d v) (hcnt : d.count ≤ 900000) (hX : Is w x z) (hcx : x.count ≤ 900000) (hP : IsPath w (· < w.heap.size) u p) :
    Calls Try.prog 23 #[v, u, z] w (AtP (fun W => New w.heap.size W) w (withN x p d)) := by
  obtain ⟨k0, s0, y0, m0, c0, rfl⟩ := hD.form
  obtain ⟨kx, sx, yx, mx, cx, rfl⟩ := hX.form
  obtain ⟨pa, pc, rfl, hpl, -⟩ := id hP
  have HP := hide hP
  have HD := hide hD
  have HX := hide hX
  simp only [maxLen] at hpl
  clear hP hD hX
  obtain ⟨W1, hW1⟩ : ∃ W1, ((w.alloc (.cells #[.int .i64 k0, .string s0, .slice y0 m0 c0] 25)).alloc (.cells #[.int .i64 kx, .string sx, .slice yx mx cx] 25)).alloc (.cells #[.int .i64 0, .string ⟨#[]⟩, .slice none 0 0] 25) = W1 := ⟨_, rfl⟩
  have HS1 := hide (show St w W1 [ne w.heap.size k0 s0 y0 m0 c0, ne (w.heap.size + 1) kx sx yx mx cx, nz (w.heap.size + 1 + 1)] from St.onto hW1.symm ((((St.nil w).var 25 _ (by simp)).var 25 _ (by simp)).var 25 _ (by simp)))
  have HZ1 := hide (show W1.heap.size = w.heap.size + 3 by rw [← hW1]; simp)
  have HC := hide (copyT_any d _ W1 (HD.out.below HS1.out.below) hcnt)
  have p0 := (HS1.out.get 0 rfl).see3
  have p1 := (HS1.out.get 1 rfl).see3
  have p2 := (HS1.out.get 2 rfl).see3
  go_enter Try.func23, Try.ntmps23
  go_wp2_with fail
  refine HC.out.mono ?_
  rintro e w2 ⟨k2, s2, y2, m2, c2, rfl, hn2, hb2⟩
  have HS2 := hide (HS1.out.call hb2)
  have HT2 := hide hn2
  have HB2 := hide hb2
  have lv0 := (HS2.out.get 0 rfl).lt
  have lv1 := (HS2.out.get 1 rfl).lt
  have lv2 := (HS2.out.get 2 rfl).lt
  clear p0 p1 p2 hn2 hb2 hW1
  go_wp2_with fail
  refine namedWp fun W3 hW3 => ?_
  have HS3 := hide (show St w W3 [ne w.heap.size k0 s0 y0 m0 c0, ne (w.heap.size + 1) kx sx yx mx cx, nz (w.heap.size + 1 + 1), ne w2.heap.size k2 s2 y2 m2 c2] from St.onto hW3 (HS2.out.var 25 _ (by simp)))
  have hz3 : W3.heap.size = w2.heap.size + 1 := by rw [hW3]; simp
  have hb3 : Below w2.heap.size w2 W3 := hW3 ▸ (Below.refl _ w2).alloc (Nat.le_refl _) _
  have HPL := hide (show Place W1.heap.size W3 w2.heap.size 0 W1.heap.size w2.heap.size d k2 s2 y2 m2 c2 from ⟨HB2.out.size, ⟨_, HS3.out.get 3 rfl⟩, (HS3.out.get 3 rfl).cell 0, (HS3.out.get 3 rfl).cell 1, (HS3.out.get 3 rfl).cell 2, IsT.keep _ _ _ _ _ _ (Nat.le_refl _) (Nat.le_refl _) (fun k h1 h2 => hb3.block k h2) HT2.out, Nat.le_refl _, by omega, Or.inr (Nat.le_refl _)⟩)
  have HP3 := hide (HP.out.below HS3.out.below)
  have HX3 := hide (HX.out.below HS3.out.below)
  have HZ3 := hide hz3
  have hB12 := HB2.out.size
  clear hW3 hb3 hz3 HS2 HT2 HS1 HP HD HX HC lv0 lv1 lv2
  have q2 := (HS3.out.get 2 rfl).see3
  go_loopw [9, 16] (fun xv iv wr => ∃ (q : Nat) (d' : Nd) (b o l m : Nat) (k : Int) (s : ByteArray) (y : Option Addr) (n c : Nat) (G : Nd → Nd), xv = .pointer (some ⟨b, o, none⟩) ∧ iv = .int .i64 q ∧ q ≤ p.length ∧ wr = W3 ∧ Place W1.heap.size W3 b o l m d' k s y n c ∧ Plug W1.heap.size W3 w2.heap.size b o l m G ∧ withN x p d = (withN x (p.drop q) d').map G) (fun _ iv _ => p.length - (intOf iv).toNat)
  case atStart => exact ⟨0, d, w2.heap.size, 0, W1.heap.size, w2.heap.size, k2, s2, y2, m2, c2, id, rfl, rfl, Nat.zero_le _, rfl, HPL.out, Plug.start _ _ _ _ _, by simp⟩
  case round =>
    obtain ⟨q, d', b, o, l, m, k, s, y, n, c, G, rfl, rfl, hq, rfl, hpl', hpg, hwi⟩ := hrel
    have HPLC := hide hpl'
    have HPG := hide hpg
    have HWI := hide hwi
    clear hpl' hpg hwi HPL
    have r0 := HPLC.out.c0
    have r1 := HPLC.out.c1
    have r2 := HPLC.out.c2
    by_cases hlt : q < p.length
    · have hlti : (q : Int) < (p.length : Int) := by omega
      obtain ⟨pb, po, rfl, hpb, gp⟩ := HP3.out.get hlt
      obtain ⟨i, hi⟩ : ∃ i, p[q] = i := ⟨_, rfl⟩
      rw [hi] at gp
      have HI := hide hi
      clear hi
      obtain ⟨kd, sd, ks⟩ := d'
      obtain ⟨rfl, rfl⟩ : kd = k ∧ sd = s := by
        have := HPLC.out.nd
        rw [IsT] at this
        obtain ⟨a, cap, h0, _⟩ := this
        cases h0
        exact ⟨rfl, rfl⟩
      have hnl : n = ks.toL.length ∧ n ≤ maxLen := by
        have := HPLC.out.nd
        rw [IsT] at this
        obtain ⟨a, cap, h0, _, _, h3, _⟩ := this
        cases h0
        exact ⟨by rw [Nds.len_toL], h3⟩
      by_cases hin : 0 ≤ i ∧ i.toNat < ks.toL.length
      · obtain ⟨j, rfl⟩ : ∃ j : Nat, i = j := ⟨i.toNat, by omega⟩
        have hj : j < ks.toL.length := by omega
        obtain ⟨-, bb, k', s', y', n', c', l', m', rfl, hP', hG'⟩ := HPLC.out.step HPG.out (List.getElem?_eq_getElem hj)
        have HP' := hide hP'
        have HG' := hide hG'
        have hwi2 : withN x p d = (withN x (p.drop (q + 1)) ks.toL[j]).map fun z => G (Nd.of kd sd (ks.toL.set j z)) := by
          rw [HWI.out, withN_drop hlt, HI.out, kidI_ofNat, List.getElem?_eq_getElem hj]
          simp
          rfl
        have HWI2 := hide hwi2
        have hnm := hnl.2
        have hjn : j < n := by omega
        clear hP' hG' hwi2 hin hnl
        go_wp2_with fail
        refine (kid_in r2 hjn hnm).mono ?_
        rintro e w3 ⟨rfl, rfl⟩
        rw [Nat.zero_add]
        go_wp2_with fail
        exact ⟨⟨q + 1, ks.toL[j], bb, j * 3, l', m', k', s', y', n', c', _, rfl, by go_num, by omega, trivial, HP'.out, HG'.out, HWI2.out⟩, by simp [intOf]; omega⟩
      · have hwi2 : withN x p d = none := by
          rw [HWI.out, withN_drop hlt, HI.out]
          have : kidI ks.toL i = none := by
            cases hkk : kidI ks.toL i with
            | none => rfl
            | some z =>
              obtain ⟨h1, h2⟩ := kidI_some hkk
              exact absurd ⟨h1, (List.getElem?_eq_some_iff.1 h2).1⟩ hin
          rw [this]; rfl
        have HWI2 := hide hwi2
        have hout : i < 0 ∨ (n : Int) ≤ i := by omega
        clear hwi2 hin hnl
        go_wp2_with fail
        refine (kid_out r2 hout).mono ?_
        rintro e w3 ⟨rfl, rfl⟩
        go_wp2_with fail
        rw [HWI2.out]
        exact ended_nb_ rfl rfl rfl ((HS3.out.st3 2 rfl _ _ _).get 2 rfl) ⟨rfl, (HS3.out.st3 2 rfl _ _ _).below⟩
    · have hlti : ¬ (q : Int) < (p.length : Int) := by omega
      have hwi2 : withN x p d = some (G x) := by rw [HWI.out, List.drop_eq_nil_of_le (by omega), withN]; rfl
      have HWI2 := hide hwi2
      have hbl := HPLC.out.blk
      obtain ⟨cs, hbl⟩ := hbl
      have HBL := hide hbl
      have p1 := (HS3.out.get 1 rfl).see3
      clear hwi2 hbl
      go_wp2_with fail
      refine (copy_any x _ _ HX3.out hcx).mono ?_
      rintro e w4 ⟨k4, s4, y4, m4, c4, rfl, hn4, hb4⟩
      have HS4 := hide (HS3.out.call hb4)
      have hlb := HBL.out.lt
      have HBL4 := hide (HBL.out.below hb4 hlb)
      have f0 := HBL4.out.frozen o
      have f1 := HBL4.out.frozen (o + 1)
      have f2 := HBL4.out.frozen (o + 2)
      have g0 := (hb4.cell (p := ⟨b, o, none⟩) hlb).trans r0
      have g1 := (hb4.cell (p := ⟨b, o + 1, none⟩) hlb).trans r1
      have g2 := (hb4.cell (p := ⟨b, o + 2, none⟩) hlb).trans r2
      have hlb4 : b < w4.heap.size := HBL4.out.lt
      have HN4 := hide hn4
      have HB4 := hide hb4
      clear r0 r1 r2 p1 q2 hn4 hb4
      go_wp2_with (refine stopAt 31 ?_)
      refine namedStop fun W5 hW5 => ?_
      have hbge := HPLC.out.new
      have hzz := HZ1.out
      have hBW : W1.heap.size ≤ wr.heap.size := by have := HZ3.out; omega
      obtain ⟨v0, v1, v2, e0, e1, e2, hnf⟩ := HPLC.out.lay HPG.out HB4.out HN4.out hBW hW5
      obtain ⟨k5, s5, y5, n5, c5, hv⟩ := hnf.form
      simp only [Value.agg.injEq, Array.mk.injEq, List.cons.injEq, and_true] at hv
      obtain ⟨rfl, rfl, rfl⟩ := hv
      have HNF := hide hnf
      have hR5 : Blk W5 (w.heap.size + 1 + 1) 25 #[.int .i64 0, .string ⟨#[]⟩, .slice none 0 0] := by
        rw [hW5]
        exact (((HS4.out.get 2 rfl).far (show w.heap.size + 1 + 1 ≠ b by omega) _).far (show w.heap.size + 1 + 1 ≠ b by omega) _).far (show w.heap.size + 1 + 1 ≠ b by omega) _
      have hb5 : Below w.heap.size w W5 := by
        rw [hW5]
        exact bl_st (bl_st (bl_st HS4.out.below (by omega) _ _) (by omega) _ _) (by omega) _ _
      have HR5 := hide hR5
      have HB5 := hide hb5
      have q2 := hR5.see3
      clear hW5 hnf hR5 hb5 f0 f1 f2 g0 g1 g2 HS4
      go_wp2_with fail
      rw [HWI2.out]
      exact ended_nb_ rfl rfl rfl (((HR5.out.set_ 0 _).set_ 1 _).set_ 2 _) ⟨⟨_, _, _, _, _, rfl, IsNd.keep (fun i hi => ⟨⟨by have := hi.1; omega, by simpa using hi.2⟩, by
        have := hi.1
        exact (Below.heap_setCell _ ⟨w.heap.size + 1 + 1, 2, none⟩ _ i (show i ≠ w.heap.size + 1 + 1 by omega)).trans ((Below.heap_setCell _ ⟨w.heap.size + 1 + 1, 1, none⟩ _ i (show i ≠ w.heap.size + 1 + 1 by omega)).trans (Below.heap_setCell _ ⟨w.heap.size + 1 + 1, 0, none⟩ _ i (show i ≠ w.heap.size + 1 + 1 by omega)))⟩) _ _ HNF.out⟩, bl_st3 HB5.out (by omega) _ _ _⟩
end Go.Proofs.Ytacgmmpdichlmaa
namespace Go.Proofs.Ytacgmmpdichlmaa
open Go.RowKit
attribute [local go_sem ↓] Go.wp_at_zero Go.wp_at_succ

/-- Without the bracket there. -/
def withoutN (p : List Int) (d : Nd) : Option Nd := (atN p d).bind fun x => if x.br then withN (openN x) p d else none
/-- Where a place is, something can be laid. -/
theorem with_some (z : Nd) : ∀ (p : List Int) (d x : Nd), atN p d = some x → ∃ m, withN z p d = some m
  | [], d, x, _ => ⟨z, rfl⟩
  | i :: p, .mk k s ks, x, h => by
    rw [atN] at h
    cases hk : kidI ks.toL i with
    | none => rw [show kidI (Nd.kids (.mk k s ks)) i = none from hk] at h; cases h
    | some y =>
      rw [show kidI (Nd.kids (.mk k s ks)) i = some y from hk, Option.bind_some] at h
      obtain ⟨m, hm⟩ := with_some z p y x h
      exact ⟨_, by rw [withN, hk, Option.bind_some, hm]; rfl⟩
theorem at_count : ∀ (p : List Int) (d x : Nd), atN p d = some x → x.count ≤ d.count
  | [], d, x, h => by
    rw [atN, Option.some.injEq] at h
    subst h
    exact Nat.le_refl _
  | i :: p, d, x, h => by
    rw [atN] at h
    cases hk : kidI d.kids i with
    | none => rw [hk] at h; cases h
    | some y =>
      rw [hk, Option.bind_some] at h
      exact Nat.le_trans (at_count p y x h) (count_kid hk)
theorem open_count {d : Nd} (h : d.br = true) : (openN d).count ≤ d.count := by
  obtain ⟨hp, ho⟩ := open_yes h
  rw [ho]
  exact count_kid (i := (0 : Nat)) (by rw [kidI_ofNat]; exact List.getElem?_eq_getElem hp)

set_option maxRecDepth 100000 in
set_option maxHeartbeats 4000000 in
theorem without_any {d : Nd} {v u : Value} {p : List Int} {w : World} (hD : Is w d v) (hcnt : d.count ≤ 900000) (hP : IsPath w (· < w.heap.size) u p) :
    Calls Try.prog 12 #[v, u] w (AtP (fun W => New w.heap.size W) w (withoutN p d)) := by
  obtain ⟨k0, s0, y0, m0, c0, rfl⟩ := hD.form
  obtain ⟨pa, pc, rfl, hpl, -⟩ := id hP
  have HP := hide hP
  have HD := hide hD
  clear hP hD hpl
  obtain ⟨W1, hW1⟩ : ∃ W1, (w.alloc (.cells #[.int .i64 k0, .string s0, .slice y0 m0 c0] 25)).alloc (.cells #[.int .i64 0, .string ⟨#[]⟩, .slice none 0 0] 25) = W1 := ⟨_, rfl⟩
  have HS1 := hide (show St w W1 [ne w.heap.size k0 s0 y0 m0 c0, nz (w.heap.size + 1)] from St.onto hW1.symm (((St.nil w).var 25 _ (by simp)).var 25 _ (by simp)))
  have HZ1 := hide (show W1.heap.size = w.heap.size + 2 by rw [← hW1]; simp)
  have HC := hide (at_any (HD.out.below HS1.out.below) hcnt (HP.out.below HS1.out.below))
  have p0 := (HS1.out.get 0 rfl).see3
  have p1 := (HS1.out.get 1 rfl).see3
  go_enter Try.func12, Try.ntmps12
  go_wp2_with fail
  refine HC.out.mono ?_
  rintro e w2 ⟨hm, hb2⟩
  have HS2 := hide (HS1.out.call hb2)
  have HB2 := hide hb2
  have lv0 := (HS2.out.get 0 rfl).lt
  have lv1 := (HS2.out.get 1 rfl).lt
  clear p0 p1 hb2 hW1 HC
  cases hat : atN p d with
  | none =>
    rw [hat] at hm
    obtain rfl := hm
    have HW := hide (show withoutN p d = none by rw [withoutN, hat]; rfl)
    have p0 := (HS2.out.get 0 rfl).see3
    have p1 := (HS2.out.get 1 rfl).see3
    clear hat
    go_wp2_with fail
    refine namedPost fun W5 hW5 => ?_
    have HS5 := hide (show St w W5 [ne w.heap.size k0 s0 y0 m0 c0, nz (w.heap.size + 1), nz w2.heap.size] from St.onto hW5 ((HS2.out.st3 1 rfl _ _ _).var 25 _ (by simp)))
    rw [HW.out]
    exact ended_nb_ rfl rfl rfl (HS5.out.get 1 rfl) ⟨rfl, HS5.out.below⟩
  | some x =>
    rw [hat] at hm
    obtain ⟨k, s, y, m, c, rfl, hnx⟩ := hm
    have HNX := hide hnx
    have HAT := hide hat
    obtain ⟨W3, hW3⟩ : ∃ W3, w2.alloc (.cells #[.int .i64 k, .string s, .slice y m c] 25) = W3 := ⟨_, rfl⟩
    have HS3 := hide (show St w W3 [ne w.heap.size k0 s0 y0 m0 c0, nz (w.heap.size + 1), ne w2.heap.size k s y m c] from St.onto hW3.symm (HS2.out.var 25 _ (by simp)))
    have hb3 : Below w2.heap.size w2 W3 := hW3 ▸ (Below.refl _ w2).alloc (Nat.le_refl _) _
    have HB3 := hide hb3
    have hnx3 : IsNd W3 (New W1.heap.size w2) x (.agg #[.int .i64 k, .string s, .slice y m c]) := IsNd.keep (fun b hb => ⟨hb, hb3.block b hb.2⟩) _ _ hnx
    have HX3 := hide hnx3
    have HBR := hide (bracketB_any hnx3)
    have hxc := at_count p d x hat
    have p0 := (HS3.out.get 0 rfl).see3
    have p1 := (HS3.out.get 1 rfl).see3
    have p2 := (HS3.out.get 2 rfl).see3
    clear hat hnx hb3 hnx3
    go_wp2_with fail
    refine HBR.out.mono ?_
    rintro e w4 ⟨rfl, hb4⟩
    have HS4 := hide (HS3.out.call hb4)
    have HB4 := hide hb4
    clear p0 p1 p2 hb4 HBR hW3 HS2
    cases hbr : x.br with
    | false =>
      have HW := hide (show withoutN p d = none by rw [withoutN, HAT.out, Option.bind_some, hbr]; rfl)
      have p1 := (HS4.out.get 1 rfl).see3
      clear hbr
      go_wp2_with fail
      rw [HW.out]
      exact ended_nb_ rfl rfl rfl ((HS4.out.st3 1 rfl _ _ _).get 1 rfl) ⟨rfl, (HS4.out.st3 1 rfl _ _ _).below⟩
    | true =>
      have HW := hide (show withoutN p d = withN (openN x) p d by rw [withoutN, HAT.out, Option.bind_some, hbr]; rfl)
      obtain ⟨hpos, ho⟩ := open_yes hbr
      have hoc := open_count hbr
      have hx4 : IsNd w4 (New W1.heap.size w2) x (.agg #[.int .i64 k, .string s, .slice y m c]) := IsNd.keep (fun b hb => ⟨hb, HB4.out.block b (by have := hb.2; have := HB3.out.size; omega)⟩) _ _ HX3.out
      obtain ⟨hm, hml, hsl, -, -⟩ := hx4.out
      obtain ⟨b, o, cap2, k1, s1, y1, m1, e1, hv, hFb, g0, g1, g2, hc⟩ := hsl.kid hpos
      have hm1 : x.kids.length = 1 := by
        rw [br_of] at hbr
        simpa using (Bool.and_eq_true_iff.1 hbr).2
      rw [hm1] at hv hm
      subst hm
      cases hv
      simp only [Nat.zero_mul, Nat.add_zero] at g0 g1 g2
      have HK := hide (show IsNd w4 (New W1.heap.size w2) (openN x) (.agg #[.int .i64 k1, .string s1, .slice y1 m1 e1]) from ho ▸ hc)
      have hlt0 : w.heap.size < w4.heap.size := (HS4.out.get 0 rfl).lt
      have hlt2 : w2.heap.size < w4.heap.size := (HS4.out.get 2 rfl).lt
      have hb4 : b < w4.heap.size := World.block_lt_of_cell? w4 ⟨b, o, none⟩ g0
      have hbge : w.heap.size + 2 ≤ b := by have := hFb.1; have := HZ1.out; omega
      have hw2ge : w.heap.size + 2 ≤ w2.heap.size := lv1
      have hSn := show w4.cell? ⟨w.heap.size, 0, none⟩ = some (.int .i64 k0) ∧ w4.cell? ⟨w.heap.size, 1, none⟩ = some (.string s0) ∧ w4.cell? ⟨w.heap.size, 2, none⟩ = some (.slice y0 m0 c0) ∧ w4.cell? ⟨w2.heap.size, 2, none⟩ = some (.slice (some ⟨b, o, none⟩) 1 c) ∧ w4.cell? ⟨b, o, none⟩ = some (.int .i64 k1) ∧ w4.cell? ⟨b, o + 1, none⟩ = some (.string s1) ∧ w4.cell? ⟨b, o + 2, none⟩ = some (.slice y1 m1 e1) from ⟨(HS4.out.get 0 rfl).cell 0, (HS4.out.get 0 rfl).cell 1, (HS4.out.get 0 rfl).cell 2, (HS4.out.get 2 rfl).cell 2, g0, g1, g2⟩
      have HKS := hide (show ∀ W : World, Below w4.heap.size w4 W → W.cell? ⟨w.heap.size, 0, none⟩ = some (.int .i64 k0) ∧ W.cell? ⟨w.heap.size, 1, none⟩ = some (.string s0) ∧ W.cell? ⟨w.heap.size, 2, none⟩ = some (.slice y0 m0 c0) ∧ W.cell? ⟨w2.heap.size, 2, none⟩ = some (.slice (some ⟨b, o, none⟩) 1 c) ∧ W.cell? ⟨b, o, none⟩ = some (.int .i64 k1) ∧ W.cell? ⟨b, o + 1, none⟩ = some (.string s1) ∧ W.cell? ⟨b, o + 2, none⟩ = some (.slice y1 m1 e1) from fun W h => ⟨(h.cell (p := ⟨w.heap.size, 0, none⟩) hlt0).trans hSn.1, (h.cell (p := ⟨w.heap.size, 1, none⟩) hlt0).trans hSn.2.1, (h.cell (p := ⟨w.heap.size, 2, none⟩) hlt0).trans hSn.2.2.1, (h.cell (p := ⟨w2.heap.size, 2, none⟩) hlt2).trans hSn.2.2.2.1, (h.cell (p := ⟨b, o, none⟩) hb4).trans g0, (h.cell (p := ⟨b, o + 1, none⟩) hb4).trans g1, (h.cell (p := ⟨b, o + 2, none⟩) hb4).trans g2⟩)
      have HKT := hide (show ∀ (W : World) (i : Nat) (u : Value), (W.cell? ⟨w.heap.size, 0, none⟩ = some (.int .i64 k0) ∧ W.cell? ⟨w.heap.size, 1, none⟩ = some (.string s0) ∧ W.cell? ⟨w.heap.size, 2, none⟩ = some (.slice y0 m0 c0) ∧ W.cell? ⟨w2.heap.size, 2, none⟩ = some (.slice (some ⟨b, o, none⟩) 1 c) ∧ W.cell? ⟨b, o, none⟩ = some (.int .i64 k1) ∧ W.cell? ⟨b, o + 1, none⟩ = some (.string s1) ∧ W.cell? ⟨b, o + 2, none⟩ = some (.slice y1 m1 e1)) → ((W.setCell ⟨w.heap.size + 1, i, none⟩ u).cell? ⟨w.heap.size, 0, none⟩ = some (.int .i64 k0) ∧ (W.setCell ⟨w.heap.size + 1, i, none⟩ u).cell? ⟨w.heap.size, 1, none⟩ = some (.string s0) ∧ (W.setCell ⟨w.heap.size + 1, i, none⟩ u).cell? ⟨w.heap.size, 2, none⟩ = some (.slice y0 m0 c0) ∧ (W.setCell ⟨w.heap.size + 1, i, none⟩ u).cell? ⟨w2.heap.size, 2, none⟩ = some (.slice (some ⟨b, o, none⟩) 1 c) ∧ (W.setCell ⟨w.heap.size + 1, i, none⟩ u).cell? ⟨b, o, none⟩ = some (.int .i64 k1) ∧ (W.setCell ⟨w.heap.size + 1, i, none⟩ u).cell? ⟨b, o + 1, none⟩ = some (.string s1) ∧ (W.setCell ⟨w.heap.size + 1, i, none⟩ u).cell? ⟨b, o + 2, none⟩ = some (.slice y1 m1 e1)) from fun W i u h => ⟨(W.cell?_setCell_far ⟨w.heap.size + 1, i, none⟩ ⟨w.heap.size, 0, none⟩ u (show w.heap.size + 1 ≠ w.heap.size by omega)).trans h.1, (W.cell?_setCell_far ⟨w.heap.size + 1, i, none⟩ ⟨w.heap.size, 1, none⟩ u (show w.heap.size + 1 ≠ w.heap.size by omega)).trans h.2.1, (W.cell?_setCell_far ⟨w.heap.size + 1, i, none⟩ ⟨w.heap.size, 2, none⟩ u (show w.heap.size + 1 ≠ w.heap.size by omega)).trans h.2.2.1, (W.cell?_setCell_far ⟨w.heap.size + 1, i, none⟩ ⟨w2.heap.size, 2, none⟩ u (show w.heap.size + 1 ≠ w2.heap.size by omega)).trans h.2.2.2.1, (W.cell?_setCell_far ⟨w.heap.size + 1, i, none⟩ ⟨b, o, none⟩ u (show w.heap.size + 1 ≠ b by omega)).trans h.2.2.2.2.1, (W.cell?_setCell_far ⟨w.heap.size + 1, i, none⟩ ⟨b, o + 1, none⟩ u (show w.heap.size + 1 ≠ b by omega)).trans h.2.2.2.2.2.1, (W.cell?_setCell_far ⟨w.heap.size + 1, i, none⟩ ⟨b, o + 2, none⟩ u (show w.heap.size + 1 ≠ b by omega)).trans h.2.2.2.2.2.2⟩)
      clear hc hbr hsl g0 g1 g2 ho hm1
      have p1 := (HS4.out.get 1 rfl).see3
      go_wp2_with fail
      refine wp_region_held_drew (S := fun W => W.cell? ⟨w.heap.size, 0, none⟩ = some (.int .i64 k0) ∧ W.cell? ⟨w.heap.size, 1, none⟩ = some (.string s0) ∧ W.cell? ⟨w.heap.size, 2, none⟩ = some (.slice y0 m0 c0) ∧ W.cell? ⟨w2.heap.size, 2, none⟩ = some (.slice (some ⟨b, o, none⟩) 1 c) ∧ W.cell? ⟨b, o, none⟩ = some (.int .i64 k1) ∧ W.cell? ⟨b, o + 1, none⟩ = some (.string s1) ∧ W.cell? ⟨b, o + 2, none⟩ = some (.slice y1 m1 e1)) (by kernel_rfl) ?_ (fun hHeld => ?_)
      · exact HKS.out _ (bl_dr (Below.refl _ w4))
      refine namedAny fun W5 hW5 => ?_
      have hb5 : Below w4.heap.size w4 W5 := hW5 ▸ bl_dr (Below.refl _ w4)
      have HS5 := hide (St.onto hW5 HS4.out.dr)
      replace hSn := HKS.out _ hb5
      clear hHeld p1 hW5
      refine takeH (i := 0) (v := ?_) rfl (by kernel_rfl) (by kernel_rfl) (by kernel_rfl) (fun _ _ _ h => h) (by rfl) (by assumption) (fun w hSw => ?_) ?_; rotate_left
      · (try dsimp only at hSw); (try go_split_ands); go_simp; all_goals with_reducible rfl
      try simp only [Act.put, List.getElem_toArray, List.getElem_cons_zero, List.setIfInBounds_toArray, List.set_cons_zero, List.set_cons_succ]
      refine takeH (i := 1) (v := ?_) rfl (by kernel_rfl) (by kernel_rfl) (by kernel_rfl) (fun _ _ _ h => h) (by rfl) (by assumption) (fun w hSw => ?_) ?_; rotate_left
      · (try dsimp only at hSw); (try go_split_ands); go_simp; all_goals with_reducible rfl
      try simp only [Act.put, List.getElem_toArray, List.getElem_cons_zero, List.getElem_cons_succ, List.setIfInBounds_toArray, List.set_cons_zero, List.set_cons_succ]
      refine takeH (i := 2) (v := ?_) rfl (by kernel_rfl) (by kernel_rfl) (by kernel_rfl) (fun _ _ _ h => h) (by rfl) (by assumption) (fun w hSw => ?_) ?_; rotate_left
      · (try dsimp only at hSw); (try go_split_ands); go_simp; all_goals with_reducible rfl
      try simp only [Act.put, List.getElem_toArray, List.getElem_cons_zero, List.getElem_cons_succ, List.setIfInBounds_toArray, List.set_cons_zero, List.set_cons_succ]
      refine takeH (i := 3) (v := ?_) rfl (by kernel_rfl) (by kernel_rfl) (by kernel_rfl) (fun _ _ _ h => h) (by rfl) (by assumption) (fun w hSw => ?_) ?_; rotate_left
      · (try dsimp only at hSw); (try go_split_ands); go_simp; all_goals with_reducible rfl
      try simp only [Act.put, List.getElem_toArray, List.getElem_cons_zero, List.getElem_cons_succ, List.setIfInBounds_toArray, List.set_cons_zero, List.set_cons_succ]
      refine takeH (i := 4) (v := ?_) rfl (by kernel_rfl) (by kernel_rfl) (by kernel_rfl) (fun _ _ _ h => h) (by rfl) (by assumption) (fun w hSw => ?_) ?_; rotate_left
      · (try dsimp only at hSw); (try go_split_ands); go_simp; all_goals with_reducible rfl
      try simp only [Act.put, List.getElem_toArray, List.getElem_cons_zero, List.getElem_cons_succ, List.setIfInBounds_toArray, List.set_cons_zero, List.set_cons_succ]
      refine takeH (i := 5) (v := ?_) rfl (by kernel_rfl) (by kernel_rfl) (by kernel_rfl) (fun _ _ _ h => h) (by rfl) (by assumption) (fun w hSw => ?_) ?_; rotate_left
      · (try dsimp only at hSw); (try go_split_ands); go_simp; all_goals with_reducible rfl
      try simp only [Act.put, List.getElem_toArray, List.getElem_cons_zero, List.getElem_cons_succ, List.setIfInBounds_toArray, List.set_cons_zero, List.set_cons_succ]
      clear hSn
      have HCW := hide (with_any (w := W5) (d := d) (x := openN x) (HD.out.below HS5.out.below) hcnt (z := .agg #[.int .i64 k1, .string s1, .slice y1 m1 e1]) (IsNd.keep (fun i hi => ⟨by have := hi.2; have := HB3.out.size; have := HB4.out.size; have := hb5.size; omega, hb5.block i (by have := hi.2; have := HB3.out.size; have := HB4.out.size; omega)⟩) _ _ HK.out) (by omega) (HP.out.below HS5.out.below))
      refine wpAnyH_ready (rs := [6]) (by kernel_rfl) (by simp) ?_
      refine AllReadyH.cons rfl (fun K hK => ?_) AllReadyH.nil
      go_simp
      refine HCW.out.mono ?_
      rintro e w6 ⟨hm6, hb6⟩
      obtain ⟨mm, hmm⟩ := with_some (openN x) p d x HAT.out
      rw [hmm] at hm6
      obtain ⟨k6, s6, y6, m6, c6, rfl, hn6⟩ := hm6
      have HN6 := hide hn6
      have HS6 := hide (HS5.out.call hb6)
      have hb46 := hb5.trans (hb6.mono hb5.size)
      clear HCW hn6
      go_simp
      refine hK.out _ _ (HKS.out _ hb46) (fun hHeld => ?_)
      clear hK K hHeld
      have hSn := HKS.out _ hb46
      refine takeH (i := 7) (v := ?_) rfl (by kernel_rfl) (by kernel_rfl) (by kernel_rfl) (fun _ _ _ h => h) (by rfl) (by assumption) (fun w hSw => ?_) ?_; rotate_left
      · (try dsimp only at hSw); (try go_split_ands); go_simp; all_goals with_reducible rfl
      try simp only [Act.put, List.getElem_toArray, List.getElem_cons_zero, List.getElem_cons_succ, List.setIfInBounds_toArray, List.set_cons_zero, List.set_cons_succ]
      refine takeH (i := 8) (v := ?_) rfl (by kernel_rfl) (by kernel_rfl) (by kernel_rfl) (fun _ _ _ h => h) (by rfl) (by assumption) (fun w hSw => ?_) ?_; rotate_left
      · (try dsimp only at hSw); (try go_split_ands); go_simp; all_goals with_reducible rfl
      try simp only [Act.put, List.getElem_toArray, List.getElem_cons_zero, List.getElem_cons_succ, List.setIfInBounds_toArray, List.set_cons_zero, List.set_cons_succ]
      clear hSn
      have p1 := (HS6.out.get 1 rfl).see3
      refine wpAnyH_ready (rs := [9]) (by kernel_rfl) (by simp) ?_
      refine AllReadyH.cons rfl (fun K hK => ?_) AllReadyH.nil
      go_simp
      have hS9 := HKT.out _ 2 (.slice y6 m6 c6) (HKT.out _ 1 (.string s6) (HKT.out _ 0 (.int .i64 k6) (HKS.out _ hb46)))
      refine hK.out _ _ hS9 (fun hHeld => ?_)
      clear hK K hHeld
      refine wpAnyH_ready (rs := [10]) (by kernel_rfl) (by simp) ?_
      refine AllReadyH.cons rfl (fun K hK => ?_) AllReadyH.nil
      go_simp
      refine hK.out _ _ hS9 (fun hHeld => ?_)
      clear hK K hHeld hS9
      refine wpAnyH_done (by kernel_rfl) ?_ _
      go_wp2_with fail
      rw [HW.out, hmm]
      exact ended_nb_ rfl rfl rfl ((HS6.out.st3 1 rfl _ _ _).get 1 rfl) ⟨⟨_, _, _, _, _, rfl, IsNd.keep (fun i hi => ⟨⟨by have := hi.1; have := HS5.out.below.size; omega, by simpa using hi.2⟩, by
        have := hi.1
        have := (HS5.out.get 1 rfl).lt
        exact (Below.heap_setCell _ ⟨w.heap.size + 1, 2, none⟩ _ i (show i ≠ w.heap.size + 1 by omega)).trans ((Below.heap_setCell _ ⟨w.heap.size + 1, 1, none⟩ _ i (show i ≠ w.heap.size + 1 by omega)).trans (Below.heap_setCell _ ⟨w.heap.size + 1, 0, none⟩ _ i (show i ≠ w.heap.size + 1 by omega)))⟩) _ _ HN6.out⟩, (HS6.out.st3 1 rfl _ _ _).below⟩
end Go.Proofs.Ytacgmmpdichlmaa
