/-
  Same of nodes: the program's, slices.EqualFunc at nodes, the reference's. Its conditions: the values read as nodes.
  Copy: a node in new memory. Its conditions: the value reads as a node, of at most 900000 nodes.
  The program's kid and At: what stands at a path, in new memory. Its conditions: the value reads as a node, of at most 900000 nodes; the slice reads as numbers.
  Cells of blocks that a walk's steps leave alone. No condition.
  The reference's At; the program's bracket. Its conditions: the value reads as a node; the slice reads as numbers.
  turn, Bare and Same of bare: a tree without its brackets. Its conditions: the value reads as a node, of at most 900000 nodes.
  The reference's bracket and Bare. Its conditions: the value reads as a node, of at most 900000 nodes.
  The reference's One, Check at any text: how many bytes a rune has; where there is none. Its condition: a text has at most 65536 bytes.
  Same of nodes: the reference's. Its conditions: the values read as nodes.
  Same of bare: the program's. Its conditions: the values read as nodes, of at most 900000 nodes each.
  Same but for brackets: the reference's. Its conditions: the values read as nodes, of at most 900000 nodes each.
-/
import Derived.Test.YtacgmmpdichlmaaGreatM02
import Derived.Test.YtacgmmpdichlmaaGreatM00
import Derived.BigQuiet
import Derived.Deep.RegionHeld3
namespace Go.Proofs.YtacgmmpdichlmaaGreat
open Go.RowKit
attribute [local go_sem ↓] Go.wp_at_zero Go.wp_at_succ

/-- The call hands back b, and leaves what was there as it was. -/
def Says (b : Bool) (w : World) (e : Ending) (w' : World) : Prop := e = .returned (.bool b) ∧ Below w.heap.size w w'
/-- The value reads as the node, wherever it lies. -/
def Is (w : World) (d : Nd) (v : Value) : Prop := IsNd w (· < w.heap.size) d v
theorem Is.below {w w' : World} {d : Nd} {v : Value} (h : Is w d v) (hb : Below w.heap.size w w') : Is w' d v := IsNd.below h hb hb.size
/-- A Kid of a slice of nodes. -/
theorem IsSl.kid {w : World} {F : Nat → Prop} {ds : List Nd} {v : Value} (h : IsSl w F ds v) {q : Nat} (hq : q < ds.length) :
    ∃ b o cap k s y n c, v = .slice (some ⟨b, o, none⟩) ds.length cap ∧ F b ∧ w.cell? ⟨b, o + q * 3, none⟩ = some (.int .i64 k) ∧ w.cell? ⟨b, o + q * 3 + 1, none⟩ = some (.string s) ∧ w.cell? ⟨b, o + q * 3 + 2, none⟩ = some (.slice y n c) ∧ IsNd w F ds[q] (.agg #[.int .i64 k, .string s, .slice y n c]) := by
  obtain ⟨a, cap, rfl, hl, hk⟩ := h
  obtain ⟨b, o, rfl, hF, hkk⟩ := hk (by omega)
  obtain ⟨c0, c1, c2, g0, g1, g2, hc⟩ := hkk.get (k := q) (d := ds[q]) (by rw [Nds.toL_ofL]; exact List.getElem?_eq_getElem hq)
  obtain ⟨k, s, y, n, c, hv⟩ := hc.form
  simp only [Value.agg.injEq, Array.mk.injEq, List.cons.injEq, and_true] at hv
  obtain ⟨rfl, rfl, rfl⟩ := hv
  exact ⟨b, o, cap, k, s, y, n, c, rfl, hF, g0, g1, g2, hc⟩
theorem bytesEq {s t : ByteArray} (h : s.toList = t.toList) : s = t := by
  rw [Lib.toList_data, Lib.toList_data] at h
  exact ByteArray.ext (Array.toList_inj.1 h)

mutual
def sameN : Nd → Nd → Bool
  | .mk k s ks, .mk k' s' ks' => decide (k = k') && decide (s = s') && sameNs ks ks'
def sameNs : Nds → Nds → Bool
  | .nil, .nil => true
  | .cons d r, .cons d' r' => sameN d d' && sameNs r r'
  | _, _ => false
end
def sameL : List Nd → List Nd → Bool
  | [], [] => true
  | d :: r, d' :: r' => sameN d d' && sameL r r'
  | _, _ => false
theorem sameNs_L : ∀ ks ks' : Nds, sameNs ks ks' = sameL ks.toL ks'.toL
  | .nil, .nil => by rw [sameNs, Nds.toL, sameL]
  | .nil, .cons _ _ => by rw [sameNs, Nds.toL, Nds.toL, sameL] <;> simp
  | .cons _ _, .nil => by rw [sameNs, Nds.toL, Nds.toL, sameL] <;> simp
  | .cons d r, .cons d' r' => by rw [sameNs, Nds.toL, Nds.toL, sameL, sameNs_L r r']
theorem sameL_len : ∀ l l' : List Nd, l.length ≠ l'.length → sameL l l' = false
  | [], [], h => absurd rfl h
  | [], _ :: _, _ => by rw [sameL] <;> simp
  | _ :: _, [], _ => by rw [sameL] <;> simp
  | d :: r, d' :: r', h => by rw [sameL, sameL_len r r' (by simpa using h)]; simp
mutual
theorem sameN_iff : ∀ d d' : Nd, sameN d d' = true ↔ d = d'
  | .mk k s ks, .mk k' s' ks' => by
    rw [sameN]
    simp only [Bool.and_eq_true, decide_eq_true_eq, sameNs_iff ks ks', Nd.mk.injEq, and_assoc]
theorem sameNs_iff : ∀ d d' : Nds, sameNs d d' = true ↔ d = d'
  | .nil, .nil => by simp [sameNs]
  | .nil, .cons _ _ => by simp [sameNs]
  | .cons _ _, .nil => by simp [sameNs]
  | .cons d r, .cons d' r' => by
    rw [sameNs]
    simp only [Bool.and_eq_true, sameN_iff d d', sameNs_iff r r', Nds.cons.injEq]
end
theorem sameN_refl (d : Nd) : sameN d d = true := (sameN_iff d d).2 rfl

def SameOk (d : Nd) : Prop := ∀ (d' : Nd) (v v' : Value) (w : World), Is w d v → Is w d' v' → Calls Tryz.prog 44 #[v, v'] w (Says (sameN d d') w)
set_option maxHeartbeats 2000000 in
theorem equal_any (F : Nat → Prop) (ds es : List Nd) (v v' : Value) (w : World) (hF : ∀ b, F b → b < w.heap.size) (h : IsSl w F ds v) (h' : IsSl w F es v') (IH : ∀ d ∈ ds, SameOk d) :
    Calls Tryz.prog 59 #[v, v', .func (.func 44) #[] #[]] w (Says (sameL ds es) w) := by
  have HSL := hide h
  have HSL' := hide h'
  obtain ⟨a, cap, rfl, hl, -⟩ := h
  obtain ⟨a', cap', rfl, hl', -⟩ := h'
  simp only [maxLen] at hl hl'
  by_cases hne : ds.length = es.length
  · have HN := hide hne.symm
    rw [← hne] at hl' HSL' ⊢
    have e0 : ((ds.length : Int) == (ds.length : Int)) = true := by simp
    clear hne
    go_enter Tryz.func59, Tryz.ntmps59
    go_wp2_with fail
    go_loopw [17] (fun i wr => ∃ q : Nat, q ≤ ds.length ∧ i = .int .i64 q ∧ Below w.heap.size w wr ∧ sameL ds es = sameL (ds.drop q) (es.drop q)) (fun i _ => ds.length - (intOf i).toNat)
    case atStart => exact ⟨0, Nat.zero_le _, rfl, Below.refl _ _, rfl⟩
    case round =>
      obtain ⟨q, hq, rfl, hb, hr⟩ := hrel
      have HR := hide hr
      clear hr
      by_cases hlt : q < ds.length
      · have hlt' : q < es.length := by rw [HN.out]; exact hlt
        obtain ⟨b, o, cap2, k1, s1, a1, m1, c1, hv, hFb, g0, g1, g2, hc⟩ := HSL.out.kid hlt
        obtain ⟨b', o', cap2', k2, s2, a2, m2, c2, hv', hFb', f0, f1, f2, he⟩ := HSL'.out.kid hlt'
        cases hv
        rw [HN.out] at hv'
        cases hv'
        have hw : ∀ x i, F x → wr.cell? ⟨x, i, none⟩ = w.cell? ⟨x, i, none⟩ := fun x i hx => hb.cell (p := ⟨x, i, none⟩) (hF x hx)
        rw [← hw _ _ hFb] at g0 g1 g2
        rw [← hw _ _ hFb'] at f0 f1 f2
        have hz := hb.size
        have HCd := hide hc
        have HEd := hide he
        have hdr : sameL (ds.drop q) (es.drop q) = (sameN ds[q] es[q] && sameL (ds.drop (q + 1)) (es.drop (q + 1))) := by rw [List.drop_eq_getElem_cons hlt, List.drop_eq_getElem_cons hlt', sameL]
        have HD := hide hdr
        clear hdr hw hc he
        have hFb1 : b < wr.heap.size := Nat.lt_of_lt_of_le (hF b hFb) hz
        have hFb2 : b' < wr.heap.size := Nat.lt_of_lt_of_le (hF b' hFb') hz
        replace f0 := Lib.cell?_alloc_some (.cells #[.int .i64 k1, .string s1, .slice a1 m1 c1] 24) f0
        replace f1 := Lib.cell?_alloc_some (.cells #[.int .i64 k1, .string s1, .slice a1 m1 c1] 24) f1
        replace f2 := Lib.cell?_alloc_some (.cells #[.int .i64 k1, .string s1, .slice a1 m1 c1] 24) f2
        obtain ⟨W2, hW2⟩ : ∃ W2, (wr.alloc (.cells #[.int .i64 k1, .string s1, .slice a1 m1 c1] 24)).alloc (.cells #[.int .i64 k2, .string s2, .slice a2 m2 c2] 24) = W2 := ⟨_, rfl⟩
        have hb2 : Below w.heap.size w W2 := by
          rw [← hW2]
          exact (hb.alloc hz _).alloc (by simp; omega) _
        have hC1 : Is W2 ds[q] (.agg #[.int .i64 k1, .string s1, .slice a1 m1 c1]) := IsNd.keep (fun x hx => ⟨Nat.lt_of_lt_of_le (hF x hx) hb2.size, hb2.block x (hF x hx)⟩) _ _ HCd.out
        have hC2 : Is W2 es[q] (.agg #[.int .i64 k2, .string s2, .slice a2 m2 c2]) := IsNd.keep (fun x hx => ⟨Nat.lt_of_lt_of_le (hF x hx) hb2.size, hb2.block x (hF x hx)⟩) _ _ HEd.out
        have HC := hide (IH ds[q] (List.getElem_mem hlt) es[q] _ _ W2 hC1 hC2)
        have bX1 : Blk W2 wr.heap.size 24 #[.int .i64 k1, .string s1, .slice a1 m1 c1] := hW2 ▸ (Blk.new wr 24 _).alloc _
        have bX2 : Blk W2 (wr.heap.size + 1) 24 #[.int .i64 k2, .string s2, .slice a2 m2 c2] := by
          have := Blk.new (wr.alloc (.cells #[.int .i64 k1, .string s1, .slice a1 m1 c1] 24)) 24 #[.int .i64 k2, .string s2, .slice a2 m2 c2]
          rw [World.size_alloc, hW2] at this
          exact this
        obtain ⟨p0, p1, p2, -⟩ := bX1.three
        obtain ⟨q0, q1, q2, -⟩ := bX2.three
        clear hC1 hC2 bX1 bX2
        go_wp2_with fail
        refine (unhide HC).mono ?_
        rintro e w1 ⟨rfl, hb1⟩
        clear g0 g1 g2 f0 f1 f2 hW2 p0 p1 p2 q0 q1 q2
        cases hx : sameN ds[q] es[q] with
        | false =>
          go_wp2_with fail
          go_ret
          exact ⟨by rw [HR.out, HD.out, hx]; rfl, hb2.trans (hb1.mono hb2.size)⟩
        | true =>
          go_wp2_with fail
          go_roundw
          case rel => exact ⟨q + 1, by omega, by go_num, hb2.trans (hb1.mono hb2.size), by rw [HR.out, HD.out, hx]; rfl⟩
          case measure => simp [intOf]; omega
      · go_wp2_with fail
        go_ret
        refine ⟨?_, hb⟩
        rw [HR.out, List.drop_eq_nil_of_le (by omega), List.drop_eq_nil_of_le (by rw [HN.out]; omega)]
        rfl
  · have HN := hide (sameL_len ds es hne)
    have e0 : ((ds.length : Int) == (es.length : Int)) = false := beq_eq_false_iff_ne.2 (by omega)
    go_enter Tryz.func59, Tryz.ntmps59
    go_wp2_with fail
    go_ret
    exact ⟨by rw [HN.out]; rfl, Below.refl _ _⟩

set_option maxHeartbeats 2000000 in
theorem same_any (d : Nd) : SameOk d := by
  refine Nd.ind_ (P := SameOk) ?_ d
  intro k s ks IH d' v v' w hD hE
  obtain ⟨k', s', ks'⟩ := d'
  obtain ⟨x, rfl, hk, hs, hsl⟩ := hD.split
  obtain ⟨x', rfl, hk', hs', hsl'⟩ := hE.split
  obtain ⟨W, hW⟩ : ∃ W, (w.alloc (.cells #[.int .i64 k, .string s, x] 24)).alloc (.cells #[.int .i64 k', .string s', x'] 24) = W := ⟨_, rfl⟩
  have hbW : Below w.heap.size w W := by
    rw [← hW]
    exact ((Below.refl _ w).alloc (Nat.le_refl _) _).alloc (by simp) _
  have hzW := hbW.size
  have bW1 : Blk W w.heap.size 24 #[.int .i64 k, .string s, x] := hW ▸ (Blk.new w 24 _).alloc _
  have bW2 : Blk W (w.heap.size + 1) 24 #[.int .i64 k', .string s', x'] := by
    have := Blk.new (w.alloc (.cells #[.int .i64 k, .string s, x] 24)) 24 #[.int .i64 k', .string s', x']
    rw [World.size_alloc, hW] at this
    exact this
  obtain ⟨p0, p1, p2, -⟩ := bW1.three
  obtain ⟨q0, q1, q2, -⟩ := bW2.three
  have HC := hide (equal_any (· < W.heap.size) ks.toL ks'.toL x x' W (fun _ h => h) (hsl.keep (fun b h => ⟨Nat.lt_of_lt_of_le h hzW, hbW.block b h⟩)) (hsl'.keep (fun b h => ⟨Nat.lt_of_lt_of_le h hzW, hbW.block b h⟩)) IH)
  obtain ⟨a1, c1, rfl, -⟩ := hsl
  obtain ⟨a2, c2, rfl, -⟩ := hsl'
  clear hD hE bW1 bW2 hs hs'
  unfold Says
  rw [show sameN (.mk k s ks) (.mk k' s' ks') = (decide (k = k') && decide (s = s') && sameL ks.toL ks'.toL) by rw [sameN, sameNs_L]]
  by_cases h1 : k = k'
  · subst h1
    by_cases h2 : s = s'
    · subst h2
      simp only [decide_true, Bool.true_and]
      go_enter Tryz.func44, Tryz.ntmps44
      go_wp2_with fail
      refine (unhide HC).mono ?_
      rintro e w1 ⟨rfl, hb1⟩
      go_wp2_with fail
      go_ret
      exact ⟨rfl, hbW.trans (hb1.mono hzW)⟩
    · simp only [decide_true, Bool.true_and, decide_eq_false h2, Bool.false_and]
      have e3 : (s.toList == s'.toList) = false := beq_eq_false_iff_ne.2 (fun e => h2 (bytesEq e))
      go_enter Tryz.func44, Tryz.ntmps44
      go_wp2_with fail
      go_ret
      exact ⟨rfl, hbW⟩
  · have e3 : (k == k') = false := beq_eq_false_iff_ne.2 h1
    simp only [decide_eq_false h1, Bool.false_and]
    clear h1
    go_enter Tryz.func44, Tryz.ntmps44
    go_wp2_with fail
    go_ret
    exact ⟨rfl, hbW⟩
end Go.Proofs.YtacgmmpdichlmaaGreat
namespace Go.Proofs.YtacgmmpdichlmaaGreat
open Go.RowKit
attribute [local go_sem ↓] Go.wp_at_zero Go.wp_at_succ

/-- The call hands back a node in new memory. -/
def NdNew (w : World) (d : Nd) (e : Ending) (w' : World) : Prop := ∃ (k : Int) (s : ByteArray) (y : Option Addr) (m c : Nat), e = .returned (.agg #[.int .i64 k, .string s, .slice y m c]) ∧ IsNd w' (New w.heap.size w') d (.agg #[.int .i64 k, .string s, .slice y m c]) ∧ Below w.heap.size w w'
theorem ended_n {fn : Func} {p : Tmp} {tmps : Array Value} {W : World} {R : Ending → World → Prop} {g : Nat} {c0 c1 c2 : Value} (hr : fn.results = #[.cell p 24]) (hp : tmps.getD p undef = .pointer (some ⟨g, 0, none⟩)) (hb : Blk W g 24 #[c0, c1, c2])
    (hd : R (.returned (.agg #[c0, c1, c2])) W) : bodyPost Tryz.prog fn R .ret { tmps := tmps, defers := [] } W :=
  bodyPost_ret (results_cell_row hr tmps W g 24 _ (0, 0) _ hp hb Tryz.underlying24 rfl (by kernel_rfl)) rfl hd
theorem count_mem : ∀ {ks : Nds} {d : Nd}, d ∈ ks.toL → d.count ≤ ks.count
  | .nil, d, h => by simp [Nds.toL] at h
  | .cons x r, d, h => by
    rw [Nds.toL] at h
    rw [Nds.count]
    rcases List.mem_cons.1 h with rfl | h
    · omega
    · have := count_mem h
      omega
theorem len_count : ∀ ks : Nds, ks.toL.length ≤ ks.count
  | .nil => by simp [Nds.toL]
  | .cons x r => by
    have := len_count r
    have := count_pos x
    rw [Nds.toL, Nds.count, List.length_cons]
    omega
theorem count_mk (k : Int) (s : ByteArray) (ks : Nds) : (Nd.mk k s ks).count = 1 + ks.count := by rw [Nd.count]
theorem take_snoc {ds : List Nd} {q : Nat} (h : q < ds.length) : ds.take q ++ [ds[q]] = ds.take (q + 1) := (List.take_succ_eq_append_getElem h).symm
theorem rowof {w W : World} {G : List Nat} {ds : List Nd} {q n c : Nat} {y : Option Addr} (h : q < ds.length) (hx : Hx w W G (.slice y n c) (ds.take q ++ [ds[q]])) : Hx w W G (.slice y (q + 1) c) (ds.take (q + 1)) := by
  have hf := hx.form
  rw [take_snoc h] at hf hx
  obtain ⟨a, c', hf⟩ := hf
  cases hf
  have : (ds.take (q + 1)).length = q + 1 := by rw [List.length_take]; omega
  rw [this] at hx
  exact hx
theorem rowlen_eq {w W : World} {G : List Nat} {ds : List Nd} {q n c : Nat} {y : Option Addr} (h : q < ds.length) (hx : Hx w W G (.slice y n c) (ds.take q ++ [ds[q]])) : Value.slice y n c = .slice y (q + 1) c := by
  have hf := hx.form
  obtain ⟨a, c', hf⟩ := hf
  cases hf
  rw [take_snoc h]
  have : (ds.take (q + 1)).length = q + 1 := by rw [List.length_take]; omega
  rw [this]
def CopyOk (d : Nd) : Prop := ∀ (v : Value) (w : World), Is w d v → d.count ≤ 900000 → Calls Tryz.prog 49 #[v] w (NdNew w d)
set_option maxRecDepth 100000 in
set_option maxHeartbeats 4000000 in
theorem copy_any (d : Nd) : CopyOk d := by
  refine Nd.ind_ (P := CopyOk) ?_ d
  intro k s ks IH v w hD hcnt
  obtain ⟨x, rfl, hk, hs, hsl⟩ := hD.split
  have HSL := hide hsl
  have HIH := hide IH
  obtain ⟨a1, c1, rfl, hm1, -⟩ := hsl
  simp only [maxLen] at hm1
  rw [count_mk] at hcnt
  have hlc := len_count ks
  have HCM := hide (fun d h => Nat.le_trans (count_mem (ks := ks) (d := d) h) (show ks.count ≤ 900000 by omega))
  have HOF := hide (Nd.of_kids k s ks)
  clear hD IH
  obtain ⟨ds, hds⟩ : ∃ ds, ks.toL = ds := ⟨_, rfl⟩
  rw [hds] at HSL HIH HCM HOF hm1 hlc ⊢
  clear hds
  go_enter Tryz.func49, Tryz.ntmps49
  go_wp2_with fail
  refine namedWp fun W1 hW1 => ?_
  have HS1 := onS hW1 (St.nil w).va.va
  clear hW1
  go_loopw [3, 9] (fun lv i wr => ∃ (q : Nat) (y : Option Addr) (c : Nat), lv = .slice y q c ∧ q ≤ ds.length ∧ i = .int .i64 q ∧ St w wr [ne w.heap.size k s a1 ds.length c1, nz (w.heap.size + 1)] ∧ Hx w wr [w.heap.size, w.heap.size + 1] (.slice y q c) (ds.take q)) (fun _ i _ => ds.length - (intOf i).toNat)
  case atStart => exact ⟨0, none, 0, rfl, Nat.zero_le _, rfl, HS1.out, Hx.nil _ _ _⟩
  obtain ⟨q, y, c, rfl, hq, rfl, hS, hH⟩ := hrel
  have HSr := hide hS
  have HRk := hide hH
  clear hS hH HS1
  by_cases hlt : q < ds.length
  ·
   have hlti : (q : Int) < (ds.length : Int) := by omega
   obtain ⟨b, o, cap2, k1, s1, y1, m1, e1, hv, hFb, g0, g1, g2, hc⟩ := HSL.out.kid hlt
   cases hv
   have HC := hide hc
   clear hc
   replace g0 := (Below.cell HSr.out.below (p := ⟨b, o + q * 3, none⟩) hFb).trans g0
   replace g1 := (Below.cell HSr.out.below (p := ⟨b, o + q * 3 + 1, none⟩) hFb).trans g1
   replace g2 := (Below.cell HSr.out.below (p := ⟨b, o + q * 3 + 2, none⟩) hFb).trans g2
   have p0 := rD HSr
   go_wp2_with fail
   have lv2 := lV HSr
   refine named fun W2 hW2 => ?_
   have HS2 := onS hW2 HSr.out.va
   have HRl2 := hide (Px.onto hW2 (HRk.out.var (g := wr.heap.size) (by simp) _))
   clear HRk
   clear hW2 HSr
   clear p0
   have hI1 : Is W2 ds[q] _ := HC.out.below (HS2.out.below) HS2.out.below.size
   refine (HIH.out ds[q] (List.getElem_mem hlt) _ _ hI1 (HCM.out _ (List.getElem_mem hlt))).mono ?_
   rintro e w3 ⟨k3, s3, y3, m3, c3, rfl, hn3, hb3⟩
   have HS3 := hide (HS2.out.call hb3)
   have HRl3 := hide (Px.made HRl2.out hn3 hb3 HS2.out rfl)
   clear HRl2
   clear hn3 hb3 HS2
   have p0 := rD HS3
   clear hI1 g0 g1 g2
   have lv4 := lV HS3
   have hSt4 : St w w3 [ne w.heap.size k s (some ⟨b, o, none⟩) ds.length c1, nz (w.heap.size + 1), ne wr.heap.size k1 s1 y1 m1 e1] := HS3.out
   have hPx4 : Px w w3 [w.heap.size, w.heap.size + 1, wr.heap.size] (.slice y q c) (ds.take q) [ds[q]] [.int .i64 k3, .string s3, .slice y3 m3 c3] := HRl3.out
   obtain ⟨v4, w4, hr4, hH4, hS4⟩ := hPx4.snoc hSt4 rfl (by rw [List.length_take]; simp; omega) (by simp)
   simp only [List.length_cons, List.length_nil, Nat.zero_add] at hr4
   obtain ⟨y4, n4, c4, rfl⟩ := hH4.form'
   clear hSt4 hPx4 HS3 HRl3
   have HS4 := hide hS4
   have HRl4 := hide hH4
   clear hS4 hH4
   have rr0 := rD HS4
   go_wp2_with (at_builtin; refine wpList_append_run rfl _ _ (by rfl) (by rfl) (by rfl) (by rfl) hr4 ?_)
   clear hr4 p0
   exact ⟨⟨q + 1, y4, c4, rowlen_eq hlt HRl4.out, by omega, by go_num, HS4.out.cut 2 rfl, rowof hlt (HRl4.out.fewer (by simp))⟩, by simp [intOf]; omega⟩
  have p0 := rD HSr
  have hlti : ¬ (q : Int) < (ds.length : Int) := by omega
  obtain rfl : q = ds.length := by omega
  go_wp2_with fail
  refine namedPost fun W5 hW5 => ?_
  have HS5 := onS hW5 ((HSr.out.st 0 rfl 2 _).st3 1 rfl _ _ _)
  have HRl5 := hide (Px.onto hW5 ((HRk.out.st (by simp) _ _).st3 (by simp) _ _ _))
  clear HRk
  clear hW5 HSr
  clear p0
  have hN := Px.node (k := k) (s := s) HRl5.out hk hs
  rw [List.take_length, HOF.out] at hN
  exact ended_n rfl rfl (HS5.out.get 1 rfl) ⟨_, _, _, _, _, rfl, hN.out, HS5.out.below⟩
end Go.Proofs.YtacgmmpdichlmaaGreat
namespace Go.Proofs.YtacgmmpdichlmaaGreat
open Go.RowKit
attribute [local go_sem ↓] Go.wp_at_zero Go.wp_at_succ

/-- The slice reads as the numbers. -/
def IsPath (w : World) (F : Nat → Prop) (v : Value) (p : List Int) : Prop :=
  ∃ a c, v = .slice a p.length c ∧ (p.length ≤ maxLen ∧ p.length ≤ c) ∧ (p ≠ [] → ∃ b o, a = some ⟨b, o, none⟩ ∧ F b ∧ ∀ k x, p[k]? = some x → w.cell? ⟨b, o + k, none⟩ = some (.int .i64 x))
theorem IsPath.keep {w w' : World} {F F' : Nat → Prop} (hF : ∀ b, F b → F' b ∧ w'.heap[b]? = w.heap[b]?) {v : Value} {p : List Int} (h : IsPath w F v p) : IsPath w' F' v p := by
  obtain ⟨a, c, h1, h2, h3⟩ := h
  refine ⟨a, c, h1, h2, fun hne => ?_⟩
  obtain ⟨b, o, ha, hb, hc⟩ := h3 hne
  exact ⟨b, o, ha, (hF b hb).1, fun k x hx => (World.cell?_of_block (w := w) (a := ⟨b, o + k, none⟩) (hF b hb).2).trans (hc k x hx)⟩
theorem IsPath.below {w w' : World} {v : Value} {p : List Int} (h : IsPath w (· < w.heap.size) v p) (hb : Below w.heap.size w w') : IsPath w' (· < w'.heap.size) v p := h.keep fun b hb' => ⟨Nat.lt_of_lt_of_le hb' hb.size, hb.block b hb'⟩
theorem IsPath.get {w : World} {F : Nat → Prop} {a : Option Addr} {m c : Nat} {p : List Int} (h : IsPath w F (.slice a m c) p) {q : Nat} (hq : q < p.length) : ∃ b o, a = some ⟨b, o, none⟩ ∧ F b ∧ w.cell? ⟨b, o + q, none⟩ = some (.int .i64 p[q]) := by
  obtain ⟨a', c', hv, _, h3⟩ := h
  cases hv
  obtain ⟨b, o, ha, hb, hc⟩ := h3 (by rintro rfl; simp at hq)
  exact ⟨b, o, ha, hb, hc q _ (List.getElem?_eq_getElem hq)⟩

theorem kid_in {w : World} {b o b' o' q m c : Nat} (hc : w.cell? ⟨b, o + 2, none⟩ = some (.slice (some ⟨b', o', none⟩) m c)) (hq : q < m) (_hm : m ≤ maxLen) :
    Calls Tryz.prog 48 #[.pointer (some ⟨b, o, none⟩), .int .i64 q] w fun e w' => e = .returned (.pointer (some ⟨b', o' + q * 3, none⟩)) ∧ w' = w := by
  have hqi : (q : Int) < (m : Int) := by omega
  have hq0 : ¬ (q : Int) < 0 := by omega
  simp only [maxLen] at _hm
  go_enter Tryz.func48, Tryz.ntmps48
  go_wp2_with fail
  go_ret
  exact ⟨rfl, rfl⟩
theorem kid_out {w : World} {b o m c : Nat} {y : Option Addr} {x : Int} (hc : w.cell? ⟨b, o + 2, none⟩ = some (.slice y m c)) (hq : x < 0 ∨ (m : Int) ≤ x) :
    Calls Tryz.prog 48 #[.pointer (some ⟨b, o, none⟩), .int .i64 x] w fun e w' => e = .returned (.pointer none) ∧ w' = w := by
  by_cases h0 : x < 0
  · clear hq
    go_enter Tryz.func48, Tryz.ntmps48
    go_wp2_with fail
    go_ret
    exact ⟨rfl, rfl⟩
  · have hx : (m : Int) ≤ x := by omega
    clear hq
    go_enter Tryz.func48, Tryz.ntmps48
    go_wp2_with fail
    go_ret
    exact ⟨rfl, rfl⟩
theorem ended_nb_ {fn : Func} {p q : Tmp} {tmps : Array Value} {W : World} {R : Ending → World → Prop} {g : Nat} {x0 x1 x2 y : Value} (hr : fn.results = #[.cell p 24, .tmp q]) (hp : tmps.getD p undef = .pointer (some ⟨g, 0, none⟩)) (hq : tmps.getD q undef = y)
    (h0 : Blk W g 24 #[x0, x1, x2]) (hd : R (.returned (.tuple #[.agg #[x0, x1, x2], y])) W) : bodyPost Tryz.prog fn R .ret { tmps := tmps, defers := [] } W := ended_nb hr hp hq h0 hd
/-- What At hands back: a node of blocks of F, or none. -/
def AtP (F : World → Nat → Prop) (w : World) (o : Option Nd) (e : Ending) (w' : World) : Prop :=
  (match o with
   | none => e = .returned (.tuple #[.agg #[.int .i64 0, .string ⟨#[]⟩, .slice none 0 0], .bool false])
   | some d => ∃ (k : Int) (s : ByteArray) (y : Option Addr) (m c : Nat), e = .returned (.tuple #[.agg #[.int .i64 k, .string s, .slice y m c], .bool true]) ∧ IsNd w' (F w') d (.agg #[.int .i64 k, .string s, .slice y m c])) ∧ Below w.heap.size w w'
theorem atN_drop {p : List Int} {q : Nat} (h : q < p.length) (d : Nd) : atN (p.drop q) d = (kidI d.kids p[q]).bind (atN (p.drop (q + 1))) := by
  rw [List.drop_eq_getElem_cons h, atN]
theorem count_kid {d x : Nd} {i : Int} (h : kidI d.kids i = some x) : x.count ≤ d.count := by
  obtain ⟨k, s, ks⟩ := d
  rw [count_mk]
  have := count_mem (List.mem_of_getElem? (kidI_some h).2)
  omega
/-- The node's own shape. -/
theorem IsNd.out {w : World} {F : Nat → Prop} {d : Nd} {k : Int} {s : ByteArray} {y : Option Addr} {m c : Nat} (h : IsNd w F d (.agg #[.int .i64 k, .string s, .slice y m c])) : m = d.kids.length ∧ d.kids.length ≤ maxLen ∧ IsSl w F d.kids (.slice y m c) ∧ d.kind = k ∧ d.text = s := by
  obtain ⟨k', s', ks⟩ := d
  obtain ⟨x, hx, hk, hs, hsl⟩ := h.split
  simp only [Value.agg.injEq, Array.mk.injEq, List.cons.injEq, and_true, Value.int.injEq, Value.string.injEq, true_and] at hx
  obtain ⟨rfl, rfl, rfl⟩ := hx
  have h0 := hsl
  obtain ⟨a, c', hv, hl, _⟩ := hsl
  cases hv
  exact ⟨rfl, hl, h0, rfl, rfl⟩

set_option maxHeartbeats 4000000 in
theorem at_any {d : Nd} {v u : Value} {p : List Int} {w : World} (hD : Is w d v) (hcnt : d.count ≤ 900000) (hP : IsPath w (· < w.heap.size) u p) :
    Calls Tryz.prog 34 #[v, u] w (AtP (fun W => New w.heap.size W) w (atN p d)) := by
  obtain ⟨k0, s0, y0, m0, c0, rfl⟩ := hD.form
  obtain ⟨pa, pc, rfl, hpl, -⟩ := id hP
  have HP := hide hP
  have HD := hide hD
  simp only [maxLen] at hpl
  clear hP hD
  go_enter Tryz.func34, Tryz.ntmps34
  go_wp2_with fail
  refine namedWp fun W1 hW1 => ?_
  have HS1 := hide (show St w W1 [(w.heap.size, 24, #[.int .i64 k0, .string s0, .slice y0 m0 c0]), nz (w.heap.size + 1)] from St.onto hW1 (((St.nil w).var 24 _ (by simp)).var 24 _ (by simp)))
  clear hW1
  have q1 := (HS1.out.get 1 rfl).see3
  have HD1 := hide (HD.out.below HS1.out.below)
  have HP1 := hide (HP.out.below HS1.out.below)
  obtain ⟨h00, h01, h02, -⟩ := (HS1.out.get 0 rfl).three
  have hlt0 := (HS1.out.get 0 rfl).lt
  clear HD HP
  go_loopw [6, 11] (fun xv iv wr => ∃ (q : Nat) (d' : Nd) (b o : Nat) (k : Int) (s : ByteArray) (y : Option Addr) (m c : Nat), xv = .pointer (some ⟨b, o, none⟩) ∧ iv = .int .i64 q ∧ q ≤ p.length ∧ wr = W1 ∧ b < W1.heap.size ∧ W1.cell? ⟨b, o, none⟩ = some (.int .i64 k) ∧ W1.cell? ⟨b, o + 1, none⟩ = some (.string s) ∧ W1.cell? ⟨b, o + 2, none⟩ = some (.slice y m c) ∧ Is W1 d' (.agg #[.int .i64 k, .string s, .slice y m c]) ∧ atN p d = atN (p.drop q) d' ∧ d'.count ≤ 900000) (fun _ iv _ => p.length - (intOf iv).toNat)
  case atStart => exact ⟨0, d, w.heap.size, 0, k0, s0, y0, m0, c0, rfl, rfl, Nat.zero_le _, rfl, hlt0, h00, h01, h02, HD1.out, rfl, hcnt⟩
  case round =>
    obtain ⟨q, d', b, o, k, s, y, m, c, rfl, rfl, hq, rfl, hb, g0, g1, g2, hd', hat, hcnt'⟩ := hrel
    have HD' := hide hd'
    have HAT := hide hat
    clear hd' hat h00 h01 h02
    by_cases hlt : q < p.length
    · have hlti : (q : Int) < (p.length : Int) := by omega
      obtain ⟨pb, po, rfl, hpb, gp⟩ := HP1.out.get hlt
      obtain ⟨hm, hml, hsl, -, -⟩ := HD'.out.out
      obtain ⟨x, hx⟩ : ∃ x, p[q] = x := ⟨_, rfl⟩
      rw [hx] at gp
      have HX := hide hx
      clear hx
      by_cases hin : 0 ≤ x ∧ x.toNat < d'.kids.length
      · obtain ⟨j, rfl⟩ : ∃ j : Nat, x = j := ⟨x.toNat, by omega⟩
        have hj : j < d'.kids.length := by omega
        obtain ⟨b', o', cap', k', s', y', m', c', hv, hFb, f0, f1, f2, hk⟩ := hsl.kid hj
        cases hv
        have HK := hide hk
        have hmm : d'.kids.length ≤ maxLen := hml
        have hkc : d'.kids[j].count ≤ 900000 := Nat.le_trans (count_kid (d := d') (i := j) (by rw [kidI_ofNat]; exact List.getElem?_eq_getElem hj)) hcnt'
        have hat2 : atN p d = atN (p.drop (q + 1)) d'.kids[j] := by rw [HAT.out, atN_drop hlt, HX.out, kidI_ofNat, List.getElem?_eq_getElem hj]; rfl
        have HAT2 := hide hat2
        clear hk hsl hat2 hin
        go_wp2_with fail
        refine (kid_in g2 (by omega) (by omega)).mono ?_
        rintro e w2 ⟨rfl, rfl⟩
        go_wp2_with fail
        exact ⟨⟨q + 1, d'.kids[j], b', o' + j * 3, k', s', y', m', c', rfl, by go_num, by omega, trivial, hFb, f0, f1, f2, HK.out, HAT2.out, hkc⟩, by simp [intOf]; omega⟩
      · have hat2 : atN p d = none := by
          rw [HAT.out, atN_drop hlt, HX.out]
          have : kidI d'.kids x = none := by
            cases hkk : kidI d'.kids x with
            | none => rfl
            | some z =>
              obtain ⟨h1, h2⟩ := kidI_some hkk
              exact absurd ⟨h1, (List.getElem?_eq_some_iff.1 h2).1⟩ hin
          rw [this]; rfl
        have HAT2 := hide hat2
        have hout : x < 0 ∨ (m : Int) ≤ x := by omega
        clear hat2 hin hsl
        go_wp2_with fail
        refine (kid_out g2 hout).mono ?_
        rintro e w2 ⟨rfl, rfl⟩
        go_wp2_with fail
        rw [HAT2.out]
        exact ended_nb_ rfl rfl rfl ((HS1.out.st3 1 rfl _ _ _).get 1 rfl) ⟨rfl, (HS1.out.st3 1 rfl _ _ _).below⟩
    · have hlti : ¬ (q : Int) < (p.length : Int) := by omega
      have hat2 : atN p d = some d' := by rw [HAT.out, List.drop_eq_nil_of_le (by omega), atN]
      have HAT2 := hide hat2
      clear hat2
      go_wp2_with fail
      refine (copy_any d' _ _ HD'.out hcnt').mono ?_
      rintro e w2 ⟨k2, s2, y2, m2, c2, rfl, hn2, hb2⟩
      have HS2 := hide (HS1.out.call hb2)
      have q2 := (HS2.out.get 1 rfl).see3
      have HN := hide (show Nx w w2 [w.heap.size, w.heap.size + 1] d' _ from Nx.made hn2 HS1.out)
      clear hn2 hb2 q1
      go_wp2_with fail
      rw [HAT2.out]
      exact ended_nb_ rfl rfl rfl ((HS2.out.st3 1 rfl _ _ _).get 1 rfl) ⟨⟨_, _, _, _, _, rfl, (HN.out.st3 (by simp) _ _ _).out⟩, (HS2.out.st3 1 rfl _ _ _).below⟩
end Go.Proofs.YtacgmmpdichlmaaGreat
namespace Go.Proofs.YtacgmmpdichlmaaGreat
open Go.RowKit

theorem st3_cell {W : World} {g b i : Nat} {v : Value} (hne : b ≠ g) (h : W.cell? ⟨b, i, none⟩ = some v) (x y z : Value) : (((W.setCell ⟨g, 0, none⟩ x).setCell ⟨g, 1, none⟩ y).setCell ⟨g, 2, none⟩ z).cell? ⟨b, i, none⟩ = some v := by
  have h1 := fun (W : World) (j : Nat) (u : Value) => World.cell?_of_block (w := W) (w' := W.setCell ⟨g, j, none⟩ u) (a := ⟨b, i, none⟩) (Below.heap_setCell W ⟨g, j, none⟩ u b (fun e => hne e))
  rw [h1, h1, h1, h]
theorem alloc_cell {W : World} {b i : Nat} {v : Value} (hlt : b < W.heap.size) (h : W.cell? ⟨b, i, none⟩ = some v) (o : Obj) : (W.alloc o).cell? ⟨b, i, none⟩ = some v := (Below.cell ((Below.refl _ W).alloc (Nat.le_refl _) o) (p := ⟨b, i, none⟩) hlt).trans h
theorem dr_cell {W : World} {b i : Nat} {v : Value} (h : W.cell? ⟨b, i, none⟩ = some v) : W.drew.cell? ⟨b, i, none⟩ = some v := h
theorem onto_cell {W W' : World} {b i : Nat} {v : Value} (e : W' = W) (h : W.cell? ⟨b, i, none⟩ = some v) : W'.cell? ⟨b, i, none⟩ = some v := e ▸ h
end Go.Proofs.YtacgmmpdichlmaaGreat
namespace Go.Proofs.YtacgmmpdichlmaaGreat
open Go.RowKit
attribute [local go_sem ↓] Go.wp_at_zero Go.wp_at_succ

theorem br_of {d : Nd} : d.br = (decide (d.kind = 12) && decide (d.kids.length = 1)) := by
  obtain ⟨k, s, ks⟩ := d
  simp only [Nd.br, isBr, Nd.kind, Nd.kids, Nds.len_toL]
  rfl
theorem bracketB_any {d : Nd} {v : Value} {w : World} {F : Nat → Prop} (hD : IsNd w F d v) : Calls Tryz.prog 35 #[v] w (Says d.br w) := by
  obtain ⟨k, s, y, m, c, rfl⟩ := hD.form
  obtain ⟨hm, hml, -, hk, -⟩ := hD.out
  simp only [maxLen] at hml
  unfold Says
  rw [br_of, ← hm, hk]
  rw [← hm] at hml
  clear hm hk hD
  by_cases h1 : k = 12
  · have e1 : (k == 12) = true := by simpa using h1
    rw [show decide (k = 12) = true by simpa using h1, Bool.true_and]
    clear h1
    by_cases h2 : m = 1
    · have e2 : ((m : Int) == 1) = true := by simp; omega
      rw [show decide (m = 1) = true by simpa using h2]
      clear h2
      go_enter Tryz.func35, Tryz.ntmps35
      go_wp2_with fail
      go_ret
      exact ⟨rfl, (Below.refl _ w).alloc (Nat.le_refl _) _⟩
    · have e2 : ((m : Int) == 1) = false := by simp; omega
      rw [show decide (m = 1) = false by simpa using h2]
      clear h2
      go_enter Tryz.func35, Tryz.ntmps35
      go_wp2_with fail
      go_ret
      exact ⟨rfl, (Below.refl _ w).alloc (Nat.le_refl _) _⟩
  · have e1 : (k == 12) = false := by simpa using h1
    rw [show decide (k = 12) = false by simpa using h1, Bool.false_and]
    clear h1
    go_enter Tryz.func35, Tryz.ntmps35
    go_wp2_with fail
    go_ret
    exact ⟨rfl, (Below.refl _ w).alloc (Nat.le_refl _) _⟩

set_option maxRecDepth 100000 in
set_option maxHeartbeats 4000000 in
theorem refAtF_any {F : Nat → Prop} {d : Nd} {v u : Value} {p : List Int} {w : World} (hD : IsNd w F d v) (hF : ∀ b, F b → b < w.heap.size) (hP : IsPath w (· < w.heap.size) u p) :
    Calls Tryz.prog 33 #[v, u] w (AtP (fun _ => F) w (atN p d)) := by
  have HFF := hide hF
  clear hF
  obtain ⟨k0, s0, y0, m0, c0, rfl⟩ := hD.form
  obtain ⟨pa, pc, rfl, hpl, -⟩ := id hP
  have HP := hide hP
  have HD := hide hD
  simp only [maxLen] at hpl
  clear hP hD
  go_enter Tryz.func33, Tryz.ntmps33
  go_wp2_with fail
  refine namedWp fun W1 hW1 => ?_
  have HS1 := onS hW1 (St.nil w).va.va
  clear hW1
  go_loopw [6] (fun iv wr => ∃ (q : Nat) (d' : Nd) (k : Int) (s : ByteArray) (y : Option Addr) (m c : Nat), iv = .int .i64 q ∧ q ≤ p.length ∧ St w wr [ne w.heap.size k s y m c, nz (w.heap.size + 1)] ∧ IsNd w F d' (.agg #[.int .i64 k, .string s, .slice y m c]) ∧ atN p d = atN (p.drop q) d') (fun iv _ => p.length - (intOf iv).toNat)
  case atStart => exact ⟨0, d, k0, s0, y0, m0, c0, rfl, Nat.zero_le _, HS1.out, HD.out, rfl⟩
  obtain ⟨q, d', k, s, y, m, c, rfl, hq, hS, hd', hat⟩ := hrel
  have HSr := hide hS
  have HD' := hide hd'
  have HAT := hide hat
  clear hS hd' hat HS1
  by_cases hlt : q < p.length
  ·
   have hlti : (q : Int) < (p.length : Int) := by omega
   obtain ⟨pb, po, rfl, hpb, gp⟩ := HP.out.get hlt
   obtain ⟨hm, hml, hsl, -, -⟩ := HD'.out.out
   obtain ⟨x, hx⟩ : ∃ x, p[q] = x := ⟨_, rfl⟩
   rw [hx] at gp
   have HX := hide hx
   clear hx
   have hpb1 : pb < w.heap.size := hpb
   have hp0 : pb ≠ w.heap.size := by omega
   have gp1 := (Below.cell HSr.out.below (p := ⟨pb, po + q, none⟩) hpb1).trans gp
   by_cases hin : 0 ≤ x ∧ x.toNat < d'.kids.length
   ·
    obtain ⟨j, rfl⟩ : ∃ j : Nat, x = j := ⟨x.toNat, by omega⟩
    have hj : j < d'.kids.length := by omega
    obtain ⟨b', o', cap', k', s', y', m', c', hv, hFb, f0, f1, f2, hk⟩ := hsl.kid hj
    cases hv
    have HK := hide hk
    have hat2 : atN p d = atN (p.drop (q + 1)) d'.kids[j] := by rw [HAT.out, atN_drop hlt, HX.out, kidI_ofNat, List.getElem?_eq_getElem hj]; rfl
    have HAT2 := hide hat2
    clear hk hsl hat2 hin
    have hji : ¬ (d'.kids.length : Int) ≤ (j : Int) := by omega
    have hjj : (j : Int) < (d'.kids.length : Int) := by omega
    have hj0 : ¬ (j : Int) < 0 := by omega
    have hb1 : b' < w.heap.size := HFF.out b' hFb
    have hb0 : b' ≠ w.heap.size := by omega
    simp only [maxLen] at hml
    have p0 := rD HSr
    go_wp2_with fail
    go_quiet (fail)
    clear p0
    clear gp1
    refine namedQ fun WQ hWQ => ?_
    have HSq := hide (St.onto hWQ (HSr.out.drN _))
    clear hWQ HSr
    have hzq := HSq.out.below.size
    have HCp0 := hide ((Below.cell HSq.out.below (p := ⟨pb, po + q, none⟩) hpb1).trans gp)
    have HCa0 := hide ((Below.cell HSq.out.below (p := ⟨b', o' + j * 3, none⟩) hb1).trans f0)
    have HCb0 := hide ((Below.cell HSq.out.below (p := ⟨b', o' + j * 3 + 1, none⟩) hb1).trans f1)
    have HCc0 := hide ((Below.cell HSq.out.below (p := ⟨b', o' + j * 3 + 2, none⟩) hb1).trans f2)
    clear gp f0 f1 f2
    have p0 := rD HSq
    go_wp2_with fail
    refine namedWp fun W2 hW2 => ?_
    have HS2 := hide (St.onto hW2 HSq.out)
    have HCp2 := hide (onto_cell hW2 HCp0.out)
    clear HCp0
    have HCa2 := hide (onto_cell hW2 HCa0.out)
    clear HCa0
    have HCb2 := hide (onto_cell hW2 HCb0.out)
    clear HCb0
    have HCc2 := hide (onto_cell hW2 HCc0.out)
    clear HCc0
    clear hW2 HSq
    clear p0
    refine wp_region_held_drew (S := fun w' => (w'.cell? ⟨pb, po + q, none⟩ = some (.int .i64 j)) ∧ (w'.cell? ⟨b', o' + j * 3, none⟩ = some (.int .i64 k')) ∧ (w'.cell? ⟨b', o' + j * 3 + 1, none⟩ = some (.string s')) ∧ (w'.cell? ⟨b', o' + j * 3 + 2, none⟩ = some (.slice y' m' c'))) (by kernel_rfl) ?_ (fun hHeld => ?_)
    · exact And.intro (HCp2.out) (And.intro (HCa2.out) (And.intro (HCb2.out) (HCc2.out)))
    refine namedAny fun W3 hW3 => ?_
    have HS3 := hide (St.onto hW3 HS2.out.dr)
    have HCp3 := hide (onto_cell hW3 (dr_cell HCp2.out))
    clear HCp2
    have HCa3 := hide (onto_cell hW3 (dr_cell HCa2.out))
    clear HCa2
    have HCb3 := hide (onto_cell hW3 (dr_cell HCb2.out))
    clear HCb2
    have HCc3 := hide (onto_cell hW3 (dr_cell HCc2.out))
    clear HCc2
    clear hW3 HS2
    have hSn := And.intro (HCp3.out) (And.intro (HCa3.out) (And.intro (HCb3.out) (HCc3.out)))
    clear hHeld
    refine tC 0 (by assumption) ?_
    refine tC 2 (by assumption) ?_
    refine tC 3 (by assumption) ?_
    refine tC 4 (by assumption) ?_
    refine tC 5 (by assumption) ?_
    refine rY 1 fun K hK => ?_
    clear hSn
    have p0 := rG HS3 0
    go_simp
    refine onK hK (And.intro (HCp3.out) (And.intro (HCa3.out) (And.intro (HCb3.out) (HCc3.out)))) ?_
    clear hK K
    have hSn := And.intro (HCp3.out) (And.intro (HCa3.out) (And.intro (HCb3.out) (HCc3.out)))
    refine tC 6 (by assumption) ?_
    refine tC 7 (by assumption) ?_
    refine rY 8 fun K hK => ?_
    clear hSn
    clear p0
    have p0 := rG HS3 0
    go_simp
    refine onW hK (And.intro ((st3_cell hp0 HCp3.out _ _ _)) (And.intro ((st3_cell hb0 HCa3.out _ _ _)) (And.intro ((st3_cell hb0 HCb3.out _ _ _)) ((st3_cell hb0 HCc3.out _ _ _))))) fun W4 hW4 => ?_
    clear hK K
    have HS4 := onS hW4 (HS3.out.st3 0 rfl _ _ _)
    have HCp4 := hide (onto_cell hW4 (st3_cell hp0 HCp3.out _ _ _))
    clear HCp3
    have HCa4 := hide (onto_cell hW4 (st3_cell hb0 HCa3.out _ _ _))
    clear HCa3
    have HCb4 := hide (onto_cell hW4 (st3_cell hb0 HCb3.out _ _ _))
    clear HCb3
    have HCc4 := hide (onto_cell hW4 (st3_cell hb0 HCc3.out _ _ _))
    clear HCc3
    clear hW4 HS3
    clear p0
    have hSn := And.intro (HCp4.out) (And.intro (HCa4.out) (And.intro (HCb4.out) (HCc4.out)))
    refine wpAnyH_done (by kernel_rfl) ?_ _
    clear hSn
    go_wp2_with fail
    exact ⟨⟨q + 1, d'.kids[j], k', s', y', m', c', by go_num, by omega, HS4.out, HK.out, HAT2.out⟩, by simp [intOf]; omega⟩
   have hat2 : atN p d = none := by
     rw [HAT.out, atN_drop hlt, HX.out]
     have : kidI d'.kids x = none := by
       cases hkk : kidI d'.kids x with
       | none => rfl
       | some z =>
         obtain ⟨h1, h2⟩ := kidI_some hkk
         exact absurd ⟨h1, (List.getElem?_eq_some_iff.1 h2).1⟩ hin
     rw [this]; rfl
   have HAT2 := hide hat2
   clear hat2 hsl
   by_cases hx0 : x < 0
   ·
    clear hin
    have p0 := rD HSr
    go_wp2_with fail
    go_quiet (fail)
    all_goals
      go_wp2_with fail
      rw [HAT2.out]
      exact ended_nb_ rfl rfl rfl ((((HSr.out).drN _).st3 1 rfl _ _ _).get 1 rfl) ⟨rfl, (((HSr.out).drN _).st3 1 rfl _ _ _).below⟩
   have hxm : (m : Int) ≤ x := by omega
   clear hin
   have p0 := rD HSr
   go_wp2_with fail
   go_quiet (fail)
   all_goals
     go_wp2_with fail
     rw [HAT2.out]
     exact ended_nb_ rfl rfl rfl ((((HSr.out).drN _).st3 1 rfl _ _ _).get 1 rfl) ⟨rfl, (((HSr.out).drN _).st3 1 rfl _ _ _).below⟩
  have hlti : ¬ (q : Int) < (p.length : Int) := by omega
  have hat2 : atN p d = some d' := by rw [HAT.out, List.drop_eq_nil_of_le (by omega), atN]
  have HAT2 := hide hat2
  clear hat2
  have p0 := rD HSr
  go_wp2_with fail
  refine namedPost fun W5 hW5 => ?_
  have HS5 := onS hW5 (HSr.out.st3 1 rfl _ _ _)
  clear hW5 HSr
  clear p0
  rw [HAT2.out]
  exact ended_nb_ rfl rfl rfl (HS5.out.get 1 rfl) ⟨⟨_, _, _, _, _, rfl, IsNd.keep (fun b hb => ⟨hb, HS5.out.below.block b (HFF.out b hb)⟩) _ _ HD'.out⟩, HS5.out.below⟩
theorem refAt_any {d : Nd} {v u : Value} {p : List Int} {w : World} (hD : Is w d v) (hP : IsPath w (· < w.heap.size) u p) :
    Calls Tryz.prog 33 #[v, u] w (AtP (fun W b => b < W.heap.size) w (atN p d)) := by
  refine (refAtF_any (F := (· < w.heap.size)) hD (fun _ h => h) hP).mono fun e w' h => ?_
  revert h
  generalize atN p d = o
  rintro ⟨h1, h2⟩
  cases o with
  | none => exact ⟨h1, h2⟩
  | some x =>
    obtain ⟨k, s, y, m, c, he, hn⟩ := h1
    exact ⟨⟨k, s, y, m, c, he, IsNd.keep (fun b hb => ⟨Nat.lt_of_lt_of_le hb h2.size, rfl⟩) _ _ hn⟩, h2⟩
end Go.Proofs.YtacgmmpdichlmaaGreat
namespace Go.Proofs.YtacgmmpdichlmaaGreat
open Go.RowKit
attribute [local go_sem ↓] Go.wp_at_zero Go.wp_at_succ

/-- A bracket is opened. -/
def openN : Nd → Nd
  | .mk k s ks => bareOf k s ks
theorem bareN_open (k : Int) (s : ByteArray) (ks : Nds) : bareN (.mk k s ks) = openN (Nd.of k s (ks.toL.map bareN)) := by
  rw [Nd.of, openN, bareN, ← bareNs_toL, Nds.ofL_toL]
theorem open_no {d : Nd} (h : d.br = false) : openN d = d := by
  obtain ⟨k, s, ks⟩ := d
  rw [openN, bareOf_no h]
theorem open_yes {d : Nd} (h : d.br = true) : ∃ h : 0 < d.kids.length, openN d = d.kids[0] := by
  obtain ⟨k, s, ks⟩ := d
  obtain ⟨rfl, x, rfl⟩ := isBr_of h
  exact ⟨by simp [Nd.kids, Nds.toL], by rw [openN, bareOf, if_pos rfl]; rfl⟩
/-- The function that opens. -/
theorem open_any {F : Nat → Prop} {d : Nd} {k : Int} {s : ByteArray} {y : Option Addr} {m c : Nat} {w : World} (hF : ∀ b, F b → b < w.heap.size) (hD : IsNd w F d (.agg #[.int .i64 k, .string s, .slice y m c])) :
    Calls Tryz.prog 38 #[.agg #[.int .i64 k, .string s, .slice y m c]] w fun e w' => ∃ (k' : Int) (s' : ByteArray) (y' : Option Addr) (m' c' : Nat), e = .returned (.agg #[.int .i64 k', .string s', .slice y' m' c']) ∧ IsNd w F (openN d) (.agg #[.int .i64 k', .string s', .slice y' m' c']) ∧ Below w.heap.size w w' := by
  obtain ⟨hm, hml, hsl, -, -⟩ := hD.out
  simp only [maxLen] at hml
  rw [← hm] at hml
  have HD := hide hD
  obtain ⟨W, hW⟩ : ∃ W, (w.alloc (.cells #[.int .i64 k, .string s, .slice y m c] 24)).alloc (.cells #[.int .i64 0, .string ⟨#[]⟩, .slice none 0 0] 24) = W := ⟨_, rfl⟩
  have HS := hide (show St w W [ne w.heap.size k s y m c, nz (w.heap.size + 1)] from St.onto hW.symm (((St.nil w).var 24 _ (by simp)).var 24 _ (by simp)))
  have HC := hide (bracketB_any (w := W) (F := F) (IsNd.keep (fun b hb => ⟨hb, HS.out.below.block b (hF b hb)⟩) _ _ hD))
  clear hD
  cases hbr : d.br
  case false =>
   rw [hbr] at HC
   rw [open_no hbr]
   have p0 := (HS.out.get 0 rfl).see3
   have p1 := (HS.out.get 1 rfl).see3
   clear hsl hm
   go_enter Tryz.func38, Tryz.ntmps38
   go_wp2_with fail
   refine HC.out.mono ?_
   rintro e w1 ⟨rfl, hb1⟩
   have HS1 := hide (HS.out.call hb1)
   have q0 := (HS1.out.get 0 rfl).see3
   have q1 := (HS1.out.get 1 rfl).see3
   clear p0 p1 hW hb1
   go_wp2_with fail
   exact ended_n rfl rfl ((HS1.out.st3 1 rfl _ _ _).get 1 rfl) ⟨_, _, _, _, _, rfl, HD.out, (HS1.out.st3 1 rfl _ _ _).below⟩
  rw [hbr] at HC
  obtain ⟨hpos, ho⟩ := open_yes hbr
  rw [ho]
  obtain ⟨b, o, cap2, k1, s1, y1, m1, e1, hv, hFb, g0, g1, g2, hc⟩ := hsl.kid hpos
  rw [← hm] at hv
  cases hv
  have HK := hide hc
  have hmp : 0 < m := by omega
  have p0 := (HS.out.get 0 rfl).see3
  have p1 := (HS.out.get 1 rfl).see3
  clear hsl hm hc
  go_enter Tryz.func38, Tryz.ntmps38
  go_wp2_with fail
  refine HC.out.mono ?_
  rintro e w1 ⟨rfl, hb1⟩
  have HS1 := hide (HS.out.call hb1)
  have q0 := (HS1.out.get 0 rfl).see3
  have q1 := (HS1.out.get 1 rfl).see3
  simp only [Nat.zero_mul, Nat.add_zero] at g0 g1 g2
  replace g0 := (Below.cell HS1.out.below (p := ⟨b, o, none⟩) (hF b hFb)).trans g0
  replace g1 := (Below.cell HS1.out.below (p := ⟨b, o + 1, none⟩) (hF b hFb)).trans g1
  replace g2 := (Below.cell HS1.out.below (p := ⟨b, o + 2, none⟩) (hF b hFb)).trans g2
  clear p0 p1 hW hb1
  go_wp2_with fail
  exact ended_n rfl rfl ((HS1.out.st3 1 rfl _ _ _).get 1 rfl) ⟨_, _, _, _, _, rfl, HK.out, (HS1.out.st3 1 rfl _ _ _).below⟩
def TurnOk (d : Nd) : Prop := ∀ (v : Value) (w : World), Is w d v → d.count ≤ 900000 → Calls Tryz.prog 37 #[v, .func (.func 38) #[] #[]] w (NdNew w (bareN d))
set_option maxRecDepth 100000 in
set_option maxHeartbeats 4000000 in
theorem turn_any (d : Nd) : TurnOk d := by
  refine Nd.ind_ (P := TurnOk) ?_ d
  intro k s ks IH v w hD hcnt
  rw [bareN_open]
  obtain ⟨x, rfl, hk, hs, hsl⟩ := hD.split
  have HSL := hide hsl
  have HIH := hide IH
  obtain ⟨a1, c1, rfl, hm1, -⟩ := hsl
  simp only [maxLen] at hm1
  rw [count_mk] at hcnt
  have hlc := len_count ks
  have HCM := hide (fun d h => Nat.le_trans (count_mem (ks := ks) (d := d) h) (show ks.count ≤ 900000 by omega))
  clear hD IH
  obtain ⟨ds, hds⟩ : ∃ ds, ks.toL = ds := ⟨_, rfl⟩
  rw [hds] at HSL HIH HCM hm1 hlc ⊢
  clear hds
  go_enter Tryz.func37, Tryz.ntmps37
  go_wp2_with fail
  refine namedWp fun W1 hW1 => ?_
  have HS1 := onS hW1 (St.nil w).va.va
  clear hW1
  go_loopw [5, 11] (fun lv i wr => ∃ (q : Nat) (y : Option Addr) (c : Nat), lv = .slice y q c ∧ q ≤ ds.length ∧ i = .int .i64 q ∧ St w wr [ne w.heap.size k s a1 ds.length c1, nz (w.heap.size + 1)] ∧ Hx w wr [w.heap.size, w.heap.size + 1] (.slice y q c) ((ds.map bareN).take q)) (fun _ i _ => ds.length - (intOf i).toNat)
  case atStart => exact ⟨0, none, 0, rfl, Nat.zero_le _, rfl, HS1.out, Hx.nil _ _ _⟩
  obtain ⟨q, y, c, rfl, hq, rfl, hS, hH⟩ := hrel
  have HSr := hide hS
  have HRk := hide hH
  clear hS hH HS1
  by_cases hlt : q < ds.length
  ·
   have hlti : (q : Int) < (ds.length : Int) := by omega
   obtain ⟨b, o, cap2, k1, s1, y1, m1, e1, hv, hFb, g0, g1, g2, hc⟩ := HSL.out.kid hlt
   cases hv
   have HC := hide hc
   clear hc
   replace g0 := (Below.cell HSr.out.below (p := ⟨b, o + q * 3, none⟩) hFb).trans g0
   replace g1 := (Below.cell HSr.out.below (p := ⟨b, o + q * 3 + 1, none⟩) hFb).trans g1
   replace g2 := (Below.cell HSr.out.below (p := ⟨b, o + q * 3 + 2, none⟩) hFb).trans g2
   have p0 := rD HSr
   go_wp2_with fail
   have lv2 := lV HSr
   refine named fun W2 hW2 => ?_
   have HS2 := onS hW2 HSr.out.va
   have HRl2 := hide (Px.onto hW2 (HRk.out.var (g := wr.heap.size) (by simp) _))
   clear HRk
   clear hW2 HSr
   clear p0
   have hI1 : Is W2 ds[q] _ := HC.out.below (HS2.out.below) HS2.out.below.size
   refine (HIH.out ds[q] (List.getElem_mem hlt) _ _ hI1 (HCM.out _ (List.getElem_mem hlt))).mono ?_
   rintro e w3 ⟨k3, s3, y3, m3, c3, rfl, hn3, hb3⟩
   have HS3 := hide (HS2.out.call hb3)
   have HRl3 := hide (Px.made HRl2.out hn3 hb3 HS2.out rfl)
   clear HRl2
   clear hn3 hb3 HS2
   have p0 := rD HS3
   clear hI1 g0 g1 g2
   have lv4 := lV HS3
   have hSt4 : St w w3 [ne w.heap.size k s (some ⟨b, o, none⟩) ds.length c1, nz (w.heap.size + 1), ne wr.heap.size k1 s1 y1 m1 e1] := HS3.out
   have hPx4 : Px w w3 [w.heap.size, w.heap.size + 1, wr.heap.size] (.slice y q c) ((ds.map bareN).take q) [(bareN ds[q])] [.int .i64 k3, .string s3, .slice y3 m3 c3] := HRl3.out
   obtain ⟨v4, w4, hr4, hH4, hS4⟩ := hPx4.snoc hSt4 rfl (by rw [List.length_take]; simp; omega) (by simp)
   simp only [List.length_cons, List.length_nil, Nat.zero_add] at hr4
   obtain ⟨y4, n4, c4, rfl⟩ := hH4.form'
   clear hSt4 hPx4 HS3 HRl3
   have HS4 := hide hS4
   have HRl4 := hide hH4
   clear hS4 hH4
   have rr0 := rD HS4
   go_wp2_with (at_builtin; refine wpList_append_run rfl _ _ (by rfl) (by rfl) (by rfl) (by rfl) hr4 ?_)
   clear hr4 p0
   have hltm : q < (ds.map bareN).length := by rw [List.length_map]; exact hlt
   have hbq : bareN ds[q] = (ds.map bareN)[q] := by rw [List.getElem_map]
   have hHq := HRl4.out
   rw [hbq] at hHq
   exact ⟨⟨q + 1, y4, c4, rowlen_eq hltm hHq, by omega, by go_num, HS4.out.cut 2 rfl, rowof hltm (hHq.fewer (by simp))⟩, by simp [intOf]; omega⟩
  have p0 := rD HSr
  have hlti : ¬ (q : Int) < (ds.length : Int) := by omega
  obtain rfl : q = ds.length := by omega
  go_wp2_with fail
  refine named fun W5 hW5 => ?_
  have HS5 := onS hW5 (HSr.out.st 0 rfl 2 _)
  have HRl5 := hide (Px.onto hW5 (HRk.out.st (by simp) _ _))
  clear HRk
  clear hW5 HSr
  clear p0
  have hN := Px.node (k := k) (s := s) HRl5.out hk hs
  rw [show (ds.map bareN).take ds.length = ds.map bareN by rw [List.take_of_length_le (by rw [List.length_map]; omega)]] at hN
  refine (open_any (F := Nf w W5 [w.heap.size, w.heap.size + 1]) (fun b hb => hb.2.1) hN).mono ?_
  rintro e w9 ⟨k9, s9, y9, m9, c9, rfl, hn9, hb9⟩
  have HS9 := hide (HS5.out.call hb9)
  have HN9 := hide (Nx.call hn9 hb9)
  clear hN hn9 hb9 HS5
  have r0 := (HS9.out.get 0 rfl).see3
  have r1 := (HS9.out.get 1 rfl).see3
  go_wp2_with fail
  exact ended_n rfl rfl ((HS9.out.st3 1 rfl _ _ _).get 1 rfl) ⟨_, _, _, _, _, rfl, (Nx.st3 HN9.out (by simp) _ _ _).out, (HS9.out.st3 1 rfl _ _ _).below⟩

set_option maxHeartbeats 4000000 in
theorem bare_any {d : Nd} {v : Value} {w : World} (hD : Is w d v) (hcnt : d.count ≤ 900000) : Calls Tryz.prog 19 #[v] w (NdNew w (bareN d)) := by
  obtain ⟨k, s, y, m, c, rfl⟩ := hD.form
  obtain ⟨W, hW⟩ : ∃ W, (w.alloc (.cells #[.int .i64 k, .string s, .slice y m c] 24)).alloc (.cells #[.int .i64 0, .string ⟨#[]⟩, .slice none 0 0] 24) = W := ⟨_, rfl⟩
  have HS := hide (show St w W [ne w.heap.size k s y m c, nz (w.heap.size + 1)] from St.onto hW.symm (((St.nil w).var 24 _ (by simp)).var 24 _ (by simp)))
  have HC := hide (turn_any d _ W (hD.below HS.out.below) hcnt)
  have p0 := (HS.out.get 0 rfl).see3
  have p1 := (HS.out.get 1 rfl).see3
  clear hD
  go_enter Tryz.func19, Tryz.ntmps19
  go_wp2_with fail
  refine HC.out.mono ?_
  rintro e w1 ⟨k1, s1, y1, m1, c1, rfl, hn1, hb1⟩
  have HS1 := hide (HS.out.call hb1)
  have q0 := (HS1.out.get 0 rfl).see3
  have q1 := (HS1.out.get 1 rfl).see3
  have HN := hide (show Nx w w1 [w.heap.size, w.heap.size + 1] (bareN d) _ from Nx.made hn1 HS.out)
  clear p0 p1 hW hb1 hn1
  go_wp2_with fail
  exact ended_n rfl rfl ((HS1.out.st3 1 rfl _ _ _).get 1 rfl) ⟨_, _, _, _, _, rfl, (HN.out.st3 (by simp) _ _ _).out, (HS1.out.st3 1 rfl _ _ _).below⟩
end Go.Proofs.YtacgmmpdichlmaaGreat
namespace Go.Proofs.YtacgmmpdichlmaaGreat
open Go.RowKit
attribute [local go_sem ↓] Go.wp_at_zero Go.wp_at_succ

theorem refBracket_any {d : Nd} {v : Value} {w : World} {F : Nat → Prop} (hD : IsNd w F d v) : Calls Tryz.prog 30 #[v] w (Says d.br w) := by
  obtain ⟨k, s, y, m, c, rfl⟩ := hD.form
  obtain ⟨hm, hml, -, hk, -⟩ := hD.out
  simp only [maxLen] at hml
  unfold Says
  rw [br_of, ← hm, hk]
  rw [← hm] at hml
  clear hm hk hD
  by_cases h1 : k = 12
  · have e1 : (k == 12) = true := by simpa using h1
    rw [show decide (k = 12) = true by simpa using h1, Bool.true_and]
    clear h1
    by_cases h2 : m = 1
    · have e2 : ((m : Int) == 1) = true := by simp; omega
      rw [show decide (m = 1) = true by simpa using h2]
      clear h2
      go_enter Tryz.func30, Tryz.ntmps30
      go_wp2_with fail
      go_ret
      exact ⟨rfl, (Below.refl _ w).alloc (Nat.le_refl _) _⟩
    · have e2 : ((m : Int) == 1) = false := by simp; omega
      rw [show decide (m = 1) = false by simpa using h2]
      clear h2
      go_enter Tryz.func30, Tryz.ntmps30
      go_wp2_with fail
      go_ret
      exact ⟨rfl, (Below.refl _ w).alloc (Nat.le_refl _) _⟩
  · have e1 : (k == 12) = false := by simpa using h1
    rw [show decide (k = 12) = false by simpa using h1, Bool.false_and]
    clear h1
    go_enter Tryz.func30, Tryz.ntmps30
    go_wp2_with fail
    go_ret
    exact ⟨rfl, (Below.refl _ w).alloc (Nat.le_refl _) _⟩
theorem bareN_map {k : Int} {s : ByteArray} {ks : Nds} (h : isBr k ks.len = false) : bareN (.mk k s ks) = Nd.of k s (ks.toL.map bareN) := by
  rw [bareN_no h, Nd.of, ← bareNs_toL, Nds.ofL_toL]
def RefBareOk (d : Nd) : Prop := ∀ (v : Value) (w : World), Is w d v → d.count ≤ 900000 → Calls Tryz.prog 12 #[v] w (NdNew w (bareN d))
set_option maxRecDepth 100000 in
set_option maxHeartbeats 4000000 in
theorem refBare_any (d : Nd) : RefBareOk d := by
  refine Nd.ind_ (P := RefBareOk) ?_ d
  intro k s ks IH v w hD hcnt
  have HD := hide hD
  obtain ⟨x, rfl, hk, hs, hsl⟩ := hD.split
  have HSL := hide hsl
  have HIH := hide IH
  obtain ⟨a1, c1, rfl, hm1, -⟩ := hsl
  simp only [maxLen] at hm1
  rw [count_mk] at hcnt
  have hlc := len_count ks
  have HCM := hide (fun d h => Nat.le_trans (count_mem (ks := ks) (d := d) h) (show ks.count ≤ 900000 by omega))
  have hlen := Nds.len_toL ks
  clear hD IH
  cases hbr : isBr k ks.len
  case true =>
    obtain ⟨rfl, x, rfl⟩ := isBr_of hbr
    rw [bareN_yes]
    have hpos : 0 < (Nds.cons x .nil).toL.length := by simp [Nds.toL]
    obtain ⟨b, o, cap2, k1, s1, y1, m1, e1, hv, hFb, g0, g1, g2, hc⟩ := HSL.out.kid hpos
    have hx : (Nds.cons x .nil).toL[0] = x := rfl
    rw [hx] at hc
    have hl1 : (Nds.cons x .nil).toL.length = 1 := rfl
    rw [hl1] at hv hm1 ⊢
    cases hv
    have HC := hide hc
    have HX := hide (HIH.out x (by simp [Nds.toL]))
    have hcx := HCM.out x (by simp [Nds.toL])
    simp only [Nat.zero_mul, Nat.add_zero] at g0 g1 g2
    have HG := hide (And.intro g0 (And.intro g1 g2))
    clear hc hx hl1 hlen hlc hpos HSL HIH HCM hbr g0 g1 g2
    go_enter Tryz.func12, Tryz.ntmps12
    go_wp2_with fail
    refine named fun W1 hW1 => ?_
    have HS1 := onS hW1 (St.nil w).va.va
    clear hW1
    refine (refBracket_any (w := W1) (F := (· < W1.heap.size)) (HD.out.below HS1.out.below)).mono ?_
    rintro e w2 ⟨rfl, hb2⟩
    rw [show (Nd.mk 12 s (.cons x .nil)).br = true from rfl]
    have HS2 := hide (HS1.out.call hb2)
    clear hb2 HS1
    have g0 := (Below.cell HS2.out.below (p := ⟨b, o, none⟩) hFb).trans HG.out.1
    have g1 := (Below.cell HS2.out.below (p := ⟨b, o + 1, none⟩) hFb).trans HG.out.2.1
    have g2 := (Below.cell HS2.out.below (p := ⟨b, o + 2, none⟩) hFb).trans HG.out.2.2
    have p0 := rD HS2
    go_wp2_with fail
    refine (HX.out _ w2 (HC.out.below HS2.out.below HS2.out.below.size) hcx).mono ?_
    rintro e w3 ⟨k3, s3, y3, m3, c3, rfl, hn3, hb3⟩
    have HS3 := hide (HS2.out.call hb3)
    have HN := hide (show Nx w w3 [w.heap.size, w.heap.size + 1] (bareN x) _ from Nx.made hn3 HS2.out)
    clear p0 g0 g1 g2 hb3 hn3 HS2
    have p0 := rD HS3
    go_wp2_with fail
    exact ended_n rfl rfl ((HS3.out.st3 1 rfl _ _ _).get 1 rfl) ⟨_, _, _, _, _, rfl, (HN.out.st3 (by simp) _ _ _).out, (HS3.out.st3 1 rfl _ _ _).below⟩
  rw [bareN_map hbr]
  have hbr2 : (Nd.mk k s ks).br = false := hbr
  obtain ⟨ds, hds⟩ : ∃ ds, ks.toL = ds := ⟨_, rfl⟩
  rw [hds] at HSL HIH HCM hm1 hlc HD ⊢
  clear hds hlen
  go_enter Tryz.func12, Tryz.ntmps12
  go_wp2_with fail
  refine named fun W1 hW1 => ?_
  have HS1 := onS hW1 (St.nil w).va.va
  clear hW1
  refine (refBracket_any (w := W1) (F := (· < W1.heap.size)) (HD.out.below HS1.out.below)).mono ?_
  rintro e w2 ⟨rfl, hb2⟩
  rw [hbr2]
  have HS2 := hide (HS1.out.call hb2)
  clear hb2 HS1 hbr hbr2 HD
  go_wp2_with fail
  go_loopw [3, 4] (fun lv i wr => ∃ (q : Nat) (y : Option Addr) (c : Nat), lv = .slice y q c ∧ q ≤ ds.length ∧ i = .int .i64 q ∧ St w wr [ne w.heap.size k s a1 ds.length c1, nz (w.heap.size + 1)] ∧ Hx w wr [w.heap.size, w.heap.size + 1] (.slice y q c) ((ds.map bareN).take q)) (fun _ i _ => ds.length - (intOf i).toNat)
  case atStart => exact ⟨0, none, 0, rfl, Nat.zero_le _, rfl, HS2.out, Hx.nil _ _ _⟩
  obtain ⟨q, y, c, rfl, hq, rfl, hS, hH⟩ := hrel
  have HSr := hide hS
  have HRk := hide hH
  clear hS hH HS2
  by_cases hlt : q < ds.length
  ·
   have hlti : (q : Int) < (ds.length : Int) := by omega
   obtain ⟨b, o, cap2, k1, s1, y1, m1, e1, hv, hFb, g0, g1, g2, hc⟩ := HSL.out.kid hlt
   cases hv
   have HC := hide hc
   clear hc
   replace g0 := (Below.cell HSr.out.below (p := ⟨b, o + q * 3, none⟩) hFb).trans g0
   replace g1 := (Below.cell HSr.out.below (p := ⟨b, o + q * 3 + 1, none⟩) hFb).trans g1
   replace g2 := (Below.cell HSr.out.below (p := ⟨b, o + q * 3 + 2, none⟩) hFb).trans g2
   have p0 := rD HSr
   go_wp2_with fail
   have hI1 : Is wr ds[q] _ := HC.out.below (HSr.out.below) HSr.out.below.size
   refine (HIH.out ds[q] (List.getElem_mem hlt) _ _ hI1 (HCM.out _ (List.getElem_mem hlt))).mono ?_
   rintro e w3 ⟨k3, s3, y3, m3, c3, rfl, hn3, hb3⟩
   have HS3 := hide (HSr.out.call hb3)
   have HRl3 := hide (Px.made HRk.out hn3 hb3 HSr.out rfl)
   clear HRk
   clear hn3 hb3 HSr
   clear p0
   have p0 := rD HS3
   clear hI1 g0 g1 g2
   have hSt4 : St w w3 [ne w.heap.size k s (some ⟨b, o, none⟩) ds.length c1, nz (w.heap.size + 1)] := HS3.out
   have hPx4 : Px w w3 [w.heap.size, w.heap.size + 1] (.slice y q c) ((ds.map bareN).take q) [(bareN ds[q])] [.int .i64 k3, .string s3, .slice y3 m3 c3] := HRl3.out
   obtain ⟨v4, w4, hr4, hH4, hS4⟩ := hPx4.snoc hSt4 rfl (by rw [List.length_take]; simp; omega) (by simp)
   simp only [List.length_cons, List.length_nil, Nat.zero_add] at hr4
   obtain ⟨y4, n4, c4, rfl⟩ := hH4.form'
   clear hSt4 hPx4 HS3 HRl3
   have HS4 := hide hS4
   have HRl4 := hide hH4
   clear hS4 hH4
   have rr0 := rD HS4
   go_wp2_with (at_builtin; refine wpList_append_run rfl _ _ (by rfl) (by rfl) (by rfl) (by rfl) hr4 ?_)
   clear hr4 p0
   have hltm : q < (ds.map bareN).length := by rw [List.length_map]; exact hlt
   have hbq : bareN ds[q] = (ds.map bareN)[q] := by rw [List.getElem_map]
   have hHq := HRl4.out
   rw [hbq] at hHq
   exact ⟨⟨q + 1, y4, c4, rowlen_eq hltm hHq, by omega, by go_num, HS4.out, rowof hltm (hHq.fewer (by simp))⟩, by simp [intOf]; omega⟩
  have p0 := rD HSr
  have hlti : ¬ (q : Int) < (ds.length : Int) := by omega
  obtain rfl : q = ds.length := by omega
  go_wp2_with fail
  refine namedPost fun W5 hW5 => ?_
  have HS5 := onS hW5 ((HSr.out.st 0 rfl 2 _).st3 1 rfl _ _ _)
  have HRl5 := hide (Px.onto hW5 ((HRk.out.st (by simp) _ _).st3 (by simp) _ _ _))
  clear HRk
  clear hW5 HSr
  clear p0
  have hN := Px.node (k := k) (s := s) HRl5.out hk hs
  rw [show (ds.map bareN).take ds.length = ds.map bareN by rw [List.take_of_length_le (by rw [List.length_map]; omega)]] at hN
  exact ended_n rfl rfl (HS5.out.get 1 rfl) ⟨_, _, _, _, _, rfl, hN.out, HS5.out.below⟩
end Go.Proofs.YtacgmmpdichlmaaGreat
namespace Go.Proofs.YtacgmmpdichlmaaGreat
open Go.RowKit

def moreI (c : Int) : Int := if c < 128 then 0 else if 194 ≤ c ∧ c ≤ 223 then 1 else if 224 ≤ c ∧ c ≤ 239 then 2 else if 240 ≤ c ∧ c ≤ 244 then 3 else -1
theorem ret_int {a b : Int} (h : a = b) : Ending.returned (.int .i64 a) = .returned (.int .i64 b) := by rw [h]
theorem more_x (c : Int) (w : World) : Calls Tryz.prog 76 #[.int .u8 c] w fun e w' => e = .returned (.int .i64 (moreI c)) ∧ w' = w := by
  go_enter Tryz.func76, Tryz.ntmps76
  go_wp2_with fail
  all_goals
    go_ret
    exact ⟨ret_int (by unfold moreI; (repeat' split) <;> omega), rfl⟩
theorem moreI_cases (c : Int) : moreI c = 0 ∨ moreI c = 1 ∨ moreI c = 2 ∨ moreI c = 3 ∨ moreI c = -1 := by
  unfold moreI
  repeat' split
  all_goals omega
set_option maxRecDepth 100000 in
set_option maxHeartbeats 4000000 in
theorem oneRune_any (s : ByteArray) (w : World) (hs : s.size ≤ 65536) (h0 : 0 < s.size) : Calls Tryz.prog 65 #[.string s] w fun e w' => (∃ n : Nat, e = .returned (.int .i64 n) ∧ n ≤ s.size) ∧ Below w.heap.size w w' := by
  have hne := toList_ne h0
  have hie := isEmpty_no h0
  have hse : ¬ s = ByteArray.empty := by rintro rfl; exact absurd h0 (by decide)
  obtain ⟨c, hc, hc0, hc1⟩ : ∃ c : Nat, s[0].toNat = c ∧ 0 ≤ c ∧ c ≤ 255 := ⟨_, rfl, Nat.zero_le _, by have := s[0].toNat_lt; omega⟩
  obtain ⟨n, hn⟩ : ∃ n, moreI c = n := ⟨_, rfl⟩
  have hcs := moreI_cases c
  rw [hn] at hcs
  have HN := hide hn
  clear hn
  rcases hcs with rfl | rfl | rfl | rfl | rfl
  case inr.inr.inr.inr =>
    go_enter Tryz.func65, Tryz.ntmps65
    go_wp2_with fail
    refine (more_x c w).mono ?_
    rintro e w1 ⟨rfl, rfl⟩
    rw [HN.out]
    go_wp2_with fail
    go_ret
    exact ⟨⟨0, rfl, by omega⟩, Below.refl _ _⟩
  case inl =>
    have ha : s[0].toNat < 128 := by
      have h := HN.out
      unfold moreI at h
      split at h
      · omega
      · (repeat' split at h) <;> omega
    exact (one_ascii s w hs h0 ha).mono fun _ _ h => ⟨⟨1, h.1, by omega⟩, h.2⟩
  case inr.inl =>
    by_cases h1 : 1 < s.size
    · have h1i : ¬ ((s.size : Int) ≤ 1) := by omega
      go_enter Tryz.func65, Tryz.ntmps65
      go_wp2_with fail
      refine (more_x c w).mono ?_
      rintro e w1 ⟨rfl, rfl⟩
      rw [HN.out]
      go_wp2_with fail
      refine (more_x c w1).mono ?_
      rintro e w2 ⟨rfl, rfl⟩
      rw [HN.out]
      go_wp2_with fail
      refine (more_x c w2).mono ?_
      rintro e w3 ⟨rfl, rfl⟩
      rw [HN.out]
      go_wp2_with fail
      go_loopw [4, 5] (fun z i wr => ∃ k r : Nat, z = .int .i64 r ∧ i = .int .i64 k ∧ ((k = 1 ∧ r < 64) ∨ (k = 2 ∧ r < 4096)) ∧ wr = w3) (fun _ i _ => 5 - (intOf i).toNat)
      case atStart => exact ⟨1, c % 32, by go_num, rfl, Or.inl ⟨rfl, by omega⟩, rfl⟩
      case round =>
        obtain ⟨k, r, rfl, rfl, hkr, rfl⟩ := hrel
        rcases hkr with ⟨rfl, hr⟩ | ⟨rfl, hr⟩
        · have hj : (1 : Int) < (s.size : Int) := by omega
          obtain ⟨x, hx, hx1⟩ : ∃ x : Nat, s[1].toNat = x ∧ x ≤ 255 := ⟨_, rfl, by have := s[1].toNat_lt; omega⟩
          go_wp2_with fail
          all_goals first
            | (go_ret; exact ⟨⟨0, rfl, by omega⟩, Below.refl _ _⟩)
            | (go_roundw
               case rel => exact ⟨2, 64 * r + x % 64, by go_num, rfl, Or.inr (⟨rfl, by omega⟩), trivial⟩
               case measure => simp [intOf])
        · go_wp2_with fail
          all_goals first
            | (go_ret; exact ⟨⟨0, rfl, by omega⟩, (Below.refl _ _).alloc (Nat.le_refl _) _⟩)
            | (go_ret; exact ⟨⟨2, rfl, by omega⟩, (Below.refl _ _).alloc (Nat.le_refl _) _⟩)
    · have h1i : ((s.size : Int) ≤ 1) := by omega
      go_enter Tryz.func65, Tryz.ntmps65
      go_wp2_with fail
      refine (more_x c w).mono ?_
      rintro e w1 ⟨rfl, rfl⟩
      rw [HN.out]
      go_wp2_with fail
      refine (more_x c w1).mono ?_
      rintro e w2 ⟨rfl, rfl⟩
      rw [HN.out]
      go_wp2_with fail
      go_ret
      exact ⟨⟨0, rfl, by omega⟩, Below.refl _ _⟩
  case inr.inr.inl =>
    by_cases h1 : 2 < s.size
    · have h1i : ¬ ((s.size : Int) ≤ 2) := by omega
      go_enter Tryz.func65, Tryz.ntmps65
      go_wp2_with fail
      refine (more_x c w).mono ?_
      rintro e w1 ⟨rfl, rfl⟩
      rw [HN.out]
      go_wp2_with fail
      refine (more_x c w1).mono ?_
      rintro e w2 ⟨rfl, rfl⟩
      rw [HN.out]
      go_wp2_with fail
      refine (more_x c w2).mono ?_
      rintro e w3 ⟨rfl, rfl⟩
      rw [HN.out]
      go_wp2_with fail
      go_loopw [4, 5] (fun z i wr => ∃ k r : Nat, z = .int .i64 r ∧ i = .int .i64 k ∧ ((k = 1 ∧ r < 64) ∨ (k = 2 ∧ r < 4096) ∨ (k = 3 ∧ r < 262144)) ∧ wr = w3) (fun _ i _ => 5 - (intOf i).toNat)
      case atStart => exact ⟨1, c % 16, by go_num, rfl, Or.inl ⟨rfl, by omega⟩, rfl⟩
      case round =>
        obtain ⟨k, r, rfl, rfl, hkr, rfl⟩ := hrel
        rcases hkr with ⟨rfl, hr⟩ | ⟨rfl, hr⟩ | ⟨rfl, hr⟩
        · have hj : (1 : Int) < (s.size : Int) := by omega
          obtain ⟨x, hx, hx1⟩ : ∃ x : Nat, s[1].toNat = x ∧ x ≤ 255 := ⟨_, rfl, by have := s[1].toNat_lt; omega⟩
          go_wp2_with fail
          all_goals first
            | (go_ret; exact ⟨⟨0, rfl, by omega⟩, Below.refl _ _⟩)
            | (go_roundw
               case rel => exact ⟨2, 64 * r + x % 64, by go_num, rfl, Or.inr (Or.inl ⟨rfl, by omega⟩), trivial⟩
               case measure => simp [intOf])
        · have hj : (2 : Int) < (s.size : Int) := by omega
          obtain ⟨x, hx, hx1⟩ : ∃ x : Nat, s[2].toNat = x ∧ x ≤ 255 := ⟨_, rfl, by have := s[2].toNat_lt; omega⟩
          go_wp2_with fail
          all_goals first
            | (go_ret; exact ⟨⟨0, rfl, by omega⟩, Below.refl _ _⟩)
            | (go_roundw
               case rel => exact ⟨3, 64 * r + x % 64, by go_num, rfl, Or.inr (Or.inr (⟨rfl, by omega⟩)), trivial⟩
               case measure => simp [intOf])
        · go_wp2_with fail
          all_goals first
            | (go_ret; exact ⟨⟨0, rfl, by omega⟩, (Below.refl _ _).alloc (Nat.le_refl _) _⟩)
            | (go_ret; exact ⟨⟨3, rfl, by omega⟩, (Below.refl _ _).alloc (Nat.le_refl _) _⟩)
    · have h1i : ((s.size : Int) ≤ 2) := by omega
      go_enter Tryz.func65, Tryz.ntmps65
      go_wp2_with fail
      refine (more_x c w).mono ?_
      rintro e w1 ⟨rfl, rfl⟩
      rw [HN.out]
      go_wp2_with fail
      refine (more_x c w1).mono ?_
      rintro e w2 ⟨rfl, rfl⟩
      rw [HN.out]
      go_wp2_with fail
      go_ret
      exact ⟨⟨0, rfl, by omega⟩, Below.refl _ _⟩
  case inr.inr.inr.inl =>
    by_cases h1 : 3 < s.size
    · have h1i : ¬ ((s.size : Int) ≤ 3) := by omega
      go_enter Tryz.func65, Tryz.ntmps65
      go_wp2_with fail
      refine (more_x c w).mono ?_
      rintro e w1 ⟨rfl, rfl⟩
      rw [HN.out]
      go_wp2_with fail
      refine (more_x c w1).mono ?_
      rintro e w2 ⟨rfl, rfl⟩
      rw [HN.out]
      go_wp2_with fail
      refine (more_x c w2).mono ?_
      rintro e w3 ⟨rfl, rfl⟩
      rw [HN.out]
      go_wp2_with fail
      go_loopw [4, 5] (fun z i wr => ∃ k r : Nat, z = .int .i64 r ∧ i = .int .i64 k ∧ ((k = 1 ∧ r < 64) ∨ (k = 2 ∧ r < 4096) ∨ (k = 3 ∧ r < 262144) ∨ (k = 4 ∧ r < 16777216)) ∧ wr = w3) (fun _ i _ => 5 - (intOf i).toNat)
      case atStart => exact ⟨1, c % 8, by go_num, rfl, Or.inl ⟨rfl, by omega⟩, rfl⟩
      case round =>
        obtain ⟨k, r, rfl, rfl, hkr, rfl⟩ := hrel
        rcases hkr with ⟨rfl, hr⟩ | ⟨rfl, hr⟩ | ⟨rfl, hr⟩ | ⟨rfl, hr⟩
        · have hj : (1 : Int) < (s.size : Int) := by omega
          obtain ⟨x, hx, hx1⟩ : ∃ x : Nat, s[1].toNat = x ∧ x ≤ 255 := ⟨_, rfl, by have := s[1].toNat_lt; omega⟩
          go_wp2_with fail
          all_goals first
            | (go_ret; exact ⟨⟨0, rfl, by omega⟩, Below.refl _ _⟩)
            | (go_roundw
               case rel => exact ⟨2, 64 * r + x % 64, by go_num, rfl, Or.inr (Or.inl ⟨rfl, by omega⟩), trivial⟩
               case measure => simp [intOf])
        · have hj : (2 : Int) < (s.size : Int) := by omega
          obtain ⟨x, hx, hx1⟩ : ∃ x : Nat, s[2].toNat = x ∧ x ≤ 255 := ⟨_, rfl, by have := s[2].toNat_lt; omega⟩
          go_wp2_with fail
          all_goals first
            | (go_ret; exact ⟨⟨0, rfl, by omega⟩, Below.refl _ _⟩)
            | (go_roundw
               case rel => exact ⟨3, 64 * r + x % 64, by go_num, rfl, Or.inr (Or.inr (Or.inl ⟨rfl, by omega⟩)), trivial⟩
               case measure => simp [intOf])
        · have hj : (3 : Int) < (s.size : Int) := by omega
          obtain ⟨x, hx, hx1⟩ : ∃ x : Nat, s[3].toNat = x ∧ x ≤ 255 := ⟨_, rfl, by have := s[3].toNat_lt; omega⟩
          go_wp2_with fail
          all_goals first
            | (go_ret; exact ⟨⟨0, rfl, by omega⟩, Below.refl _ _⟩)
            | (go_roundw
               case rel => exact ⟨4, 64 * r + x % 64, by go_num, rfl, Or.inr (Or.inr (Or.inr (⟨rfl, by omega⟩))), trivial⟩
               case measure => simp [intOf])
        · go_wp2_with fail
          all_goals first
            | (go_ret; exact ⟨⟨0, rfl, by omega⟩, (Below.refl _ _).alloc (Nat.le_refl _) _⟩)
            | (go_ret; exact ⟨⟨4, rfl, by omega⟩, (Below.refl _ _).alloc (Nat.le_refl _) _⟩)
    · have h1i : ((s.size : Int) ≤ 3) := by omega
      go_enter Tryz.func65, Tryz.ntmps65
      go_wp2_with fail
      refine (more_x c w).mono ?_
      rintro e w1 ⟨rfl, rfl⟩
      rw [HN.out]
      go_wp2_with fail
      refine (more_x c w1).mono ?_
      rintro e w2 ⟨rfl, rfl⟩
      rw [HN.out]
      go_wp2_with fail
      go_ret
      exact ⟨⟨0, rfl, by omega⟩, Below.refl _ _⟩
set_option maxHeartbeats 1000000 in
theorem check_any (s : ByteArray) (w : World) (hs : s.size ≤ 65536) : Calls Tryz.prog 53 #[.string s] w fun e w' => (∃ n : Int, e = .returned (.int .i64 n) ∧ -1 ≤ n ∧ n ≤ s.size) ∧ Below w.heap.size w w' := by
  go_enter Tryz.func53, Tryz.ntmps53
  go_wp2_with fail
  go_loopw [3] (fun n wr => ∃ k : Nat, n = .int .i64 k ∧ k ≤ s.size ∧ Below w.heap.size w wr) (fun n _ => s.size - (intOf n).toNat)
  case atStart => exact ⟨0, rfl, Nat.zero_le _, Below.refl _ _⟩
  case round =>
    obtain ⟨k, rfl, hk, hb⟩ := hrel
    by_cases hlt : k < s.size
    · have hlti : (k : Int) < (s.size : Int) := by omega
      have hx : 0 < (s.extract k s.size).size := by rw [ByteArray.size_extract]; omega
      have HC := hide (oneRune_any (s.extract k s.size) wr (by simp only [ByteArray.size_extract]; omega) hx)
      clear hx
      go_wp2_with fail
      refine HC.out.mono ?_
      rintro e w1 ⟨⟨n, rfl, hn⟩, hb1⟩
      have hb2 : Below w.heap.size w w1 := hb.trans (hb1.mono hb.size)
      rw [ByteArray.size_extract] at hn
      by_cases hn0 : n = 0
      · subst hn0
        go_wp2_with fail
        go_ret
        exact ⟨⟨_, rfl, by omega, by omega⟩, hb2⟩
      · have hnb : ((n : Int) == 0) = false := by simp; omega
        go_wp2_with fail
        go_roundw
        case rel => exact ⟨k + n, by go_num, by omega, hb2⟩
        case measure => simp [intOf]; omega
    · have hlti : ¬ (k : Int) < (s.size : Int) := by omega
      go_wp2_with fail
      go_ret
      exact ⟨⟨-1, rfl, by omega, by omega⟩, hb⟩
end Go.Proofs.YtacgmmpdichlmaaGreat
namespace Go.Proofs.YtacgmmpdichlmaaGreat
open Go.RowKit
attribute [local go_sem ↓] Go.wp_at_zero Go.wp_at_succ

def RefSameOk (d : Nd) : Prop := ∀ (d' : Nd) (v v' : Value) (w : World), Is w d v → Is w d' v' → Calls Tryz.prog 18 #[v, v'] w (Says (sameN d d') w)
set_option maxRecDepth 100000 in
set_option maxHeartbeats 4000000 in
theorem refSame_any (d : Nd) : RefSameOk d := by
  refine Nd.ind_ (P := RefSameOk) ?_ d
  intro k s ks IH d' v v' w hD hE
  obtain ⟨k', s', ks'⟩ := d'
  obtain ⟨x, rfl, hk, hs, hsl⟩ := hD.split
  obtain ⟨x', rfl, hk', hs', hsl'⟩ := hE.split
  have HSL := hide hsl
  have HSL' := hide hsl'
  have HIH := hide IH
  obtain ⟨a1, c1, rfl, hm1, -⟩ := hsl
  obtain ⟨a2, c2, rfl, hm2, -⟩ := hsl'
  simp only [maxLen] at hm1 hm2
  clear hD hE hs hs' IH
  unfold Says
  rw [show sameN (.mk k s ks) (.mk k' s' ks') = (decide (k = k') && decide (s = s') && sameL ks.toL ks'.toL) by rw [sameN, sameNs_L]]
  obtain ⟨ds, hds⟩ : ∃ ds, ks.toL = ds := ⟨_, rfl⟩
  obtain ⟨es, hes⟩ : ∃ es, ks'.toL = es := ⟨_, rfl⟩
  rw [hds] at HSL HIH hm1 ⊢
  rw [hes] at HSL' hm2 ⊢
  clear hds hes
  by_cases h1 : k = k'
  ·
   subst h1
   simp only [decide_true, Bool.true_and]
   by_cases h2 : s = s'
   ·
    subst h2
    simp only [decide_true, Bool.true_and]
    by_cases h3 : ds.length = es.length
    ·
     have HN := hide h3.symm
     rw [← h3] at hm2 HSL' ⊢
     have e0 : ((ds.length : Int) != (ds.length : Int)) = false := by simp
     clear h3
     go_enter Tryz.func18, Tryz.ntmps18
     go_wp2_with fail
     refine namedWp fun W1 hW1 => ?_
     have HS1 := onS hW1 (St.nil w).va.va
     clear hW1
     go_loopw [5] (fun i wr => ∃ q : Nat, q ≤ ds.length ∧ i = .int .i64 q ∧ St w wr [ne w.heap.size k s a1 ds.length c1, ne (w.heap.size + 1) k s a2 ds.length c2] ∧ sameL ds es = sameL (ds.drop q) (es.drop q)) (fun i _ => ds.length - (intOf i).toNat)
     case atStart => exact ⟨0, Nat.zero_le _, rfl, HS1.out, rfl⟩
     obtain ⟨q, hq, rfl, hS, hr⟩ := hrel
     have HR := hide hr
     have HSr := hide hS
     clear hS hr HS1
     by_cases hlt : q < ds.length
     ·
      have hlt' : q < es.length := by rw [HN.out]; exact hlt
      have hlti : (q : Int) < (ds.length : Int) := by omega
      obtain ⟨b, o, cap2, k1, s1, y1, m1, e1, hv, hFb, g0, g1, g2, hc⟩ := HSL.out.kid hlt
      obtain ⟨b', o', cap2', k2, s2, y2, m2, e2, hv', hFb', f0, f1, f2, he⟩ := HSL'.out.kid hlt'
      cases hv
      rw [HN.out] at hv'
      cases hv'
      have hdr : sameL (ds.drop q) (es.drop q) = (sameN ds[q] es[q] && sameL (ds.drop (q + 1)) (es.drop (q + 1))) := by rw [List.drop_eq_getElem_cons hlt, List.drop_eq_getElem_cons hlt', sameL]
      have HD := hide hdr
      have HC1 := hide hc
      have HC2 := hide he
      clear hdr hc he
      have hzr := HSr.out.below.size
      have hb1 : b < wr.heap.size := by omega
      have hb2 : b' < wr.heap.size := by omega
      have hlb1 : b < w.heap.size := hFb
      have hlb2 : b' < w.heap.size := hFb'
      have HCx0_0 := hide ((Below.cell HSr.out.below (p := ⟨b, o + q * 3, none⟩) (hlb1)).trans g0)
      have HCx1_0 := hide ((Below.cell HSr.out.below (p := ⟨b, o + q * 3 + 1, none⟩) (hlb1)).trans g1)
      have HCx2_0 := hide ((Below.cell HSr.out.below (p := ⟨b, o + q * 3 + 2, none⟩) (hlb1)).trans g2)
      have HCx3_0 := hide ((Below.cell HSr.out.below (p := ⟨b', o' + q * 3, none⟩) (hlb2)).trans f0)
      have HCx4_0 := hide ((Below.cell HSr.out.below (p := ⟨b', o' + q * 3 + 1, none⟩) (hlb2)).trans f1)
      have HCx5_0 := hide ((Below.cell HSr.out.below (p := ⟨b', o' + q * 3 + 2, none⟩) (hlb2)).trans f2)
      clear g0 g1 g2 f0 f1 f2
      have p0 := rD HSr
      go_wp2_with fail
      refine namedWp fun W2 hW2 => ?_
      have HS2 := hide (St.onto hW2 HSr.out)
      have HCx02 := hide (onto_cell hW2 HCx0_0.out)
      clear HCx0_0
      have HCx12 := hide (onto_cell hW2 HCx1_0.out)
      clear HCx1_0
      have HCx22 := hide (onto_cell hW2 HCx2_0.out)
      clear HCx2_0
      have HCx32 := hide (onto_cell hW2 HCx3_0.out)
      clear HCx3_0
      have HCx42 := hide (onto_cell hW2 HCx4_0.out)
      clear HCx4_0
      have HCx52 := hide (onto_cell hW2 HCx5_0.out)
      clear HCx5_0
      clear hW2 HSr
      clear p0
      refine wp_region_held_drew (S := fun w' => (w'.cell? ⟨w.heap.size, 0, none⟩ = some (.int .i64 k) ∧ w'.cell? ⟨w.heap.size, 1, none⟩ = some (.string s) ∧ w'.cell? ⟨w.heap.size, 2, none⟩ = some (.slice (some ⟨b, o, none⟩) ds.length c1)) ∧ (w'.cell? ⟨w.heap.size + 1, 0, none⟩ = some (.int .i64 k) ∧ w'.cell? ⟨w.heap.size + 1, 1, none⟩ = some (.string s) ∧ w'.cell? ⟨w.heap.size + 1, 2, none⟩ = some (.slice (some ⟨b', o', none⟩) ds.length c2)) ∧ (w'.cell? ⟨b, o + q * 3, none⟩ = some (.int .i64 k1)) ∧ (w'.cell? ⟨b, o + q * 3 + 1, none⟩ = some (.string s1)) ∧ (w'.cell? ⟨b, o + q * 3 + 2, none⟩ = some (.slice y1 m1 e1)) ∧ (w'.cell? ⟨b', o' + q * 3, none⟩ = some (.int .i64 k2)) ∧ (w'.cell? ⟨b', o' + q * 3 + 1, none⟩ = some (.string s2)) ∧ (w'.cell? ⟨b', o' + q * 3 + 2, none⟩ = some (.slice y2 m2 e2))) (by kernel_rfl) ?_ (fun hHeld => ?_)
      · exact And.intro (St.cells HS2.out.dr 0 rfl) (And.intro (St.cells HS2.out.dr 1 rfl) (And.intro (HCx02.out) (And.intro (HCx12.out) (And.intro (HCx22.out) (And.intro (HCx32.out) (And.intro (HCx42.out) (HCx52.out)))))))
      refine namedAny fun W3 hW3 => ?_
      have HS3 := hide (St.onto hW3 HS2.out.dr)
      have HCx03 := hide (onto_cell hW3 (dr_cell HCx02.out))
      clear HCx02
      have HCx13 := hide (onto_cell hW3 (dr_cell HCx12.out))
      clear HCx12
      have HCx23 := hide (onto_cell hW3 (dr_cell HCx22.out))
      clear HCx22
      have HCx33 := hide (onto_cell hW3 (dr_cell HCx32.out))
      clear HCx32
      have HCx43 := hide (onto_cell hW3 (dr_cell HCx42.out))
      clear HCx42
      have HCx53 := hide (onto_cell hW3 (dr_cell HCx52.out))
      clear HCx52
      clear hW3 HS2
      have hSn := And.intro (St.cells HS3.out 0 rfl) (And.intro (St.cells HS3.out 1 rfl) (And.intro (HCx03.out) (And.intro (HCx13.out) (And.intro (HCx23.out) (And.intro (HCx33.out) (And.intro (HCx43.out) (HCx53.out)))))))
      clear hHeld
      refine tC 0 (by assumption) ?_
      refine tC 1 (by assumption) ?_
      refine tC 2 (by assumption) ?_
      refine tC 3 (by assumption) ?_
      refine tC 4 (by assumption) ?_
      refine tC 5 (by assumption) ?_
      refine tC 6 (by assumption) ?_
      refine tC 7 (by assumption) ?_
      refine tC 8 (by assumption) ?_
      refine tC 9 (by assumption) ?_
      refine rY 10 fun K hK => ?_
      clear hSn
      go_simp
      have hI1 : Is W3 ds[q] _ := HC1.out.below (HS3.out.below) HS3.out.below.size
      have hI2 : Is W3 es[q] _ := HC2.out.below (HS3.out.below) HS3.out.below.size
      have hzw := HS3.out.below.size
      refine (HIH.out ds[q] (List.getElem_mem hlt) es[q] _ _ _ hI1 hI2).mono ?_
      rintro e w4 ⟨rfl, hb4⟩
      have HS4 := hide (HS3.out.call hb4)
      have HCx04 := hide ((Below.cell hb4 (p := ⟨b, o + q * 3, none⟩) (Nat.lt_of_lt_of_le hlb1 (by omega))).trans HCx03.out)
      clear HCx03
      have HCx14 := hide ((Below.cell hb4 (p := ⟨b, o + q * 3 + 1, none⟩) (Nat.lt_of_lt_of_le hlb1 (by omega))).trans HCx13.out)
      clear HCx13
      have HCx24 := hide ((Below.cell hb4 (p := ⟨b, o + q * 3 + 2, none⟩) (Nat.lt_of_lt_of_le hlb1 (by omega))).trans HCx23.out)
      clear HCx23
      have HCx34 := hide ((Below.cell hb4 (p := ⟨b', o' + q * 3, none⟩) (Nat.lt_of_lt_of_le hlb2 (by omega))).trans HCx33.out)
      clear HCx33
      have HCx44 := hide ((Below.cell hb4 (p := ⟨b', o' + q * 3 + 1, none⟩) (Nat.lt_of_lt_of_le hlb2 (by omega))).trans HCx43.out)
      clear HCx43
      have HCx54 := hide ((Below.cell hb4 (p := ⟨b', o' + q * 3 + 2, none⟩) (Nat.lt_of_lt_of_le hlb2 (by omega))).trans HCx53.out)
      clear HCx53
      clear hb4 HS3
      clear hI1 hI2 hzw
      go_simp
      refine onK hK (And.intro (St.cells HS4.out 0 rfl) (And.intro (St.cells HS4.out 1 rfl) (And.intro (HCx04.out) (And.intro (HCx14.out) (And.intro (HCx24.out) (And.intro (HCx34.out) (And.intro (HCx44.out) (HCx54.out)))))))) ?_
      clear hK K
      have hSn := And.intro (St.cells HS4.out 0 rfl) (And.intro (St.cells HS4.out 1 rfl) (And.intro (HCx04.out) (And.intro (HCx14.out) (And.intro (HCx24.out) (And.intro (HCx34.out) (And.intro (HCx44.out) (HCx54.out)))))))
      refine tC 11 (by assumption) ?_
      refine wpAnyH_done (by kernel_rfl) ?_ _
      clear hSn
      go_wp2_with fail
      all_goals
        rename_i hx
        first
          | (go_ret; exact ⟨by rw [HR.out, HD.out, show sameN ds[q] es[q] = false by simpa using hx]; rfl, HS4.out.below⟩)
          | exact ⟨⟨q + 1, by omega, by go_num, HS4.out, by rw [HR.out, HD.out, show sameN ds[q] es[q] = true by simpa using hx]; rfl⟩, by simp [intOf]; omega⟩
     have p0 := rD HSr
     have hlti : ¬ (q : Int) < (ds.length : Int) := by omega
     go_wp2_with fail
     go_ret
     exact ⟨by rw [HR.out, List.drop_eq_nil_of_le (by omega), List.drop_eq_nil_of_le (by rw [HN.out]; omega)]; rfl, HSr.out.below⟩
    have e0 : ((ds.length : Int) != (es.length : Int)) = true := bne_iff_ne.2 (by omega)
    have hle := sameL_len ds es h3
    have HL := hide hle
    clear hle h3
    go_enter Tryz.func18, Tryz.ntmps18
    go_wp2_with fail
    go_ret
    exact ⟨by rw [HL.out]; rfl, ((Below.refl _ w).alloc (Nat.le_refl _) _).alloc (by simp) _⟩
   simp only [decide_eq_false h2, Bool.false_and]
   have e3 : (s.toList != s'.toList) = true := by simpa using (fun e => h2 (bytesEq e))
   have e4 : (s.toList == s'.toList) = false := beq_eq_false_iff_ne.2 (fun e => h2 (bytesEq e))
   go_enter Tryz.func18, Tryz.ntmps18
   go_wp2_with fail
   go_ret
   exact ⟨rfl, ((Below.refl _ w).alloc (Nat.le_refl _) _).alloc (by simp) _⟩
  have e3 : (k != k') = true := by simpa using h1
  simp only [decide_eq_false h1, Bool.false_and]
  clear h1
  go_enter Tryz.func18, Tryz.ntmps18
  go_wp2_with fail
  go_ret
  exact ⟨rfl, ((Below.refl _ w).alloc (Nat.le_refl _) _).alloc (by simp) _⟩
end Go.Proofs.YtacgmmpdichlmaaGreat
namespace Go.Proofs.YtacgmmpdichlmaaGreat
open Go.RowKit
attribute [local go_sem ↓] Go.wp_at_zero Go.wp_at_succ

theorem IsNd.below_ {w w' : World} {B : Nat} {d : Nd} {v : Value} (h : IsNd w' (New B w') d v) (_ : Below w.heap.size w w') : Is w' d v := IsNd.keep (fun _ hb => ⟨hb.2, rfl⟩) _ _ h
theorem see6_ {W : World} {g g' : Nat} {t t' : TypeId} {a b c a' b' c' : Value} (h : Blk W g t #[a, b, c]) (h' : Blk W g' t' #[a', b', c']) : (W.cell? ⟨g, 0, none⟩ = some a) ∧ (W.cell? ⟨g, 1, none⟩ = some b) ∧ (W.cell? ⟨g, 2, none⟩ = some c) ∧ (W.cell? ⟨g', 0, none⟩ = some a') ∧ (W.cell? ⟨g', 1, none⟩ = some b') ∧ (W.cell? ⟨g', 2, none⟩ = some c') := ⟨h.cell 0, h.cell 1, h.cell 2, h'.cell 0, h'.cell 1, h'.cell 2⟩
set_option maxRecDepth 100000 in
set_option maxHeartbeats 4000000 in
theorem bareSame_any {d d' : Nd} {v v' : Value} {w : World} (hD : Is w d v) (hE : Is w d' v') (h1 : d.count ≤ 900000) (h2 : d'.count ≤ 900000) : Calls Tryz.prog 23 #[v, v'] w (Says (sameN (bareN d) (bareN d')) w) := by
  obtain ⟨k, s, y, m, c, rfl⟩ := hD.form
  obtain ⟨k', s', y', m', c', rfl⟩ := hE.form
  have HD := hide hD
  have HE := hide hE
  clear hD hE
  go_enter Tryz.func23, Tryz.ntmps23
  go_wp2_with fail
  refine namedWp fun W hW => ?_
  have HS := hide (show St w W [ne w.heap.size k s y m c, ne (w.heap.size + 1) k' s' y' m' c'] from St.onto hW (((St.nil w).var 24 _ (by simp)).var 24 _ (by simp)))
  clear hW
  refine wp_region_held_drew (S := fun w' => (w'.cell? ⟨w.heap.size, 0, none⟩ = some (.int .i64 k)) ∧ (w'.cell? ⟨w.heap.size, 1, none⟩ = some (.string s)) ∧ (w'.cell? ⟨w.heap.size, 2, none⟩ = some (.slice y m c)) ∧ (w'.cell? ⟨w.heap.size + 1, 0, none⟩ = some (.int .i64 k')) ∧ (w'.cell? ⟨w.heap.size + 1, 1, none⟩ = some (.string s')) ∧ (w'.cell? ⟨w.heap.size + 1, 2, none⟩ = some (.slice y' m' c'))) (by kernel_rfl) ?_ (fun hHeld => ?_)
  · exact see6_ (HS.out.get 0 rfl) (HS.out.get 1 rfl)
  refine namedAny fun W3 hW3 => ?_
  have HS3 := hide (St.onto hW3 HS.out.dr)
  clear hW3 HS
  have hSn := see6_ (HS3.out.get 0 rfl) (HS3.out.get 1 rfl)
  have HD3 := hide (HD.out.below HS3.out.below)
  have HE3 := hide (HE.out.below HS3.out.below)
  clear hHeld
  refine tC 0 (by assumption) ?_
  refine tC 2 (by assumption) ?_
  clear hSn
  refine wpAnyH_ready (rs := [1]) (by kernel_rfl) (by simp) ?_
  refine AllReadyH.cons rfl (fun K hK => ?_) AllReadyH.nil
  ·
    go_simp
    refine (bare_any (w := W3) (HD3.out) h1).mono ?_
    rintro e w4 ⟨k1, s1, y1, m1, c1, rfl, hn4, hb4⟩
    have HN1 := hide (hn4.below_ hb4)
    have HS4 := hide (HS3.out.call hb4)
    have HE4 := hide (HE3.out.below hb4)
    have hB4 := HS4.out.below
    clear hn4
    go_simp
    refine hK.out _ _ ?_ (fun hHeld => ?_)
    · exact see6_ (HS4.out.get 0 rfl) (HS4.out.get 1 rfl)
    clear hK K
    refine wpAnyH_ready (rs := [3]) (by kernel_rfl) (by simp) ?_
    refine AllReadyH.cons rfl (fun K hK => ?_) AllReadyH.nil
    go_simp
    refine (bare_any (w := w4) (HE4.out) h2).mono ?_
    rintro e w5 ⟨k2, s2, y2, m2, c2, rfl, hn5, hb5⟩
    have HN3 := hide (hn5.below_ hb5)
    have HN1' := hide (Is.below HN1.out hb5)
    have HS5 := hide (HS4.out.call hb5)
    clear hn5
    go_simp
    refine hK.out _ _ ?_ (fun hHeld => ?_)
    · exact see6_ (HS5.out.get 0 rfl) (HS5.out.get 1 rfl)
    clear hK K
    refine wpAnyH_ready (rs := [4]) (by kernel_rfl) (by simp) ?_
    refine AllReadyH.cons rfl (fun K hK => ?_) AllReadyH.nil
    go_simp
    refine (same_any (bareN d) (bareN d') _ _ w5 HN1'.out HN3.out).mono ?_
    rintro e w6 ⟨rfl, hb6⟩
    have HS6 := hide (HS5.out.call hb6)
    go_simp
    refine hK.out _ _ ?_ (fun hHeld => ?_)
    · exact see6_ (HS6.out.get 0 rfl) (HS6.out.get 1 rfl)
    clear hK K
    refine wpAnyH_ready (rs := [5]) (by kernel_rfl) (by simp) ?_
    refine AllReadyH.cons rfl (fun K hK => ?_) AllReadyH.nil
    go_simp
    refine hK.out _ _ ?_ (fun hHeld => ?_)
    · exact see6_ (HS6.out.get 0 rfl) (HS6.out.get 1 rfl)
    clear hK K
    refine wpAnyH_done (by kernel_rfl) ?_ _
    go_wp2_with fail
    go_ret
    exact ⟨rfl, HS6.out.below⟩
end Go.Proofs.YtacgmmpdichlmaaGreat
namespace Go.Proofs.YtacgmmpdichlmaaGreat
open Go.RowKit
attribute [local go_sem ↓] Go.wp_at_zero Go.wp_at_succ

set_option maxRecDepth 100000 in
set_option maxHeartbeats 4000000 in
theorem refBSame_any {d d' : Nd} {v v' : Value} {w : World} (hD : Is w d v) (hE : Is w d' v') (h1 : d.count ≤ 900000) (h2 : d'.count ≤ 900000) : Calls Tryz.prog 29 #[v, v'] w (Says (sameN (bareN d) (bareN d')) w) := by
  obtain ⟨k, s, y, m, c, rfl⟩ := hD.form
  obtain ⟨k', s', y', m', c', rfl⟩ := hE.form
  have HD := hide hD
  have HE := hide hE
  clear hD hE
  go_enter Tryz.func29, Tryz.ntmps29
  go_wp2_with fail
  refine namedWp fun W hW => ?_
  have HS := hide (show St w W [ne w.heap.size k s y m c, ne (w.heap.size + 1) k' s' y' m' c'] from St.onto hW (((St.nil w).var 24 _ (by simp)).var 24 _ (by simp)))
  clear hW
  refine wp_region_held_drew (S := fun w' => (w'.cell? ⟨w.heap.size, 0, none⟩ = some (.int .i64 k)) ∧ (w'.cell? ⟨w.heap.size, 1, none⟩ = some (.string s)) ∧ (w'.cell? ⟨w.heap.size, 2, none⟩ = some (.slice y m c)) ∧ (w'.cell? ⟨w.heap.size + 1, 0, none⟩ = some (.int .i64 k')) ∧ (w'.cell? ⟨w.heap.size + 1, 1, none⟩ = some (.string s')) ∧ (w'.cell? ⟨w.heap.size + 1, 2, none⟩ = some (.slice y' m' c'))) (by kernel_rfl) ?_ (fun hHeld => ?_)
  · exact see6_ (HS.out.get 0 rfl) (HS.out.get 1 rfl)
  refine namedAny fun W3 hW3 => ?_
  have HS3 := hide (St.onto hW3 HS.out.dr)
  clear hW3 HS
  have hSn := see6_ (HS3.out.get 0 rfl) (HS3.out.get 1 rfl)
  have HD3 := hide (HD.out.below HS3.out.below)
  have HE3 := hide (HE.out.below HS3.out.below)
  clear hHeld
  refine tC 0 (by assumption) ?_
  refine tC 2 (by assumption) ?_
  clear hSn
  refine wpAnyH_ready (rs := [1]) (by kernel_rfl) (by simp) ?_
  refine AllReadyH.cons rfl (fun K hK => ?_) AllReadyH.nil
  ·
    go_simp
    refine (refBare_any d _ W3 HD3.out h1).mono ?_
    rintro e w4 ⟨k1, s1, y1, m1, c1, rfl, hn4, hb4⟩
    have HN1 := hide (hn4.below_ hb4)
    have HS4 := hide (HS3.out.call hb4)
    have HE4 := hide (HE3.out.below hb4)
    have hB4 := HS4.out.below
    clear hn4
    go_simp
    refine hK.out _ _ ?_ (fun hHeld => ?_)
    · exact see6_ (HS4.out.get 0 rfl) (HS4.out.get 1 rfl)
    clear hK K
    refine wpAnyH_ready (rs := [3]) (by kernel_rfl) (by simp) ?_
    refine AllReadyH.cons rfl (fun K hK => ?_) AllReadyH.nil
    go_simp
    refine (refBare_any d' _ w4 HE4.out h2).mono ?_
    rintro e w5 ⟨k2, s2, y2, m2, c2, rfl, hn5, hb5⟩
    have HN3 := hide (hn5.below_ hb5)
    have HN1' := hide (Is.below HN1.out hb5)
    have HS5 := hide (HS4.out.call hb5)
    clear hn5
    go_simp
    refine hK.out _ _ ?_ (fun hHeld => ?_)
    · exact see6_ (HS5.out.get 0 rfl) (HS5.out.get 1 rfl)
    clear hK K
    refine wpAnyH_ready (rs := [4]) (by kernel_rfl) (by simp) ?_
    refine AllReadyH.cons rfl (fun K hK => ?_) AllReadyH.nil
    go_simp
    refine (refSame_any (bareN d) (bareN d') _ _ w5 HN1'.out HN3.out).mono ?_
    rintro e w6 ⟨rfl, hb6⟩
    have HS6 := hide (HS5.out.call hb6)
    go_simp
    refine hK.out _ _ ?_ (fun hHeld => ?_)
    · exact see6_ (HS6.out.get 0 rfl) (HS6.out.get 1 rfl)
    clear hK K
    refine wpAnyH_ready (rs := [5]) (by kernel_rfl) (by simp) ?_
    refine AllReadyH.cons rfl (fun K hK => ?_) AllReadyH.nil
    go_simp
    refine hK.out _ _ ?_ (fun hHeld => ?_)
    · exact see6_ (HS6.out.get 0 rfl) (HS6.out.get 1 rfl)
    clear hK K
    refine wpAnyH_done (by kernel_rfl) ?_ _
    go_wp2_with fail
    go_ret
    exact ⟨rfl, HS6.out.below⟩
end Go.Proofs.YtacgmmpdichlmaaGreat
