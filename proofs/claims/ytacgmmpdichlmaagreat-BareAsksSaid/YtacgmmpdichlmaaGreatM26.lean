/-
  Copy: a node in new memory, its rows apart from each other. Its conditions: the value reads as a node, of at most 900000 nodes.
  The program's With: a node with another one at a place. Its conditions: the values read as nodes, of at most 900000 nodes each; the slice reads as numbers.
  The program's Without: a node without one of its brackets. Its conditions: the value reads as a node, of at most 900000 nodes; the slice reads as numbers.
  The reference's Without: a node without one of its brackets. Its conditions: the value reads as a node, of at most 900000 nodes; the slice reads as numbers.
  The reference's plain at a bracket, and at a digit alone: exactly. Its condition: a text has at most 65536 bytes.
  The lexer's value in memory: its row of tokens, its row of numbers; what a step keeps. No condition.
-/
import Derived.Test.YtacgmmpdichlmaaGreatM06
import Derived.Test.YtacgmmpdichlmaaGreatM02
import Derived.Test.YtacgmmpdichlmaaGreatM03
import Derived.Deep.RegionHeld3
import Derived.Test.YtacgmmpdichlmaaGreatM05
import Derived.Test.YtacgmmpdichlmaaGreatM07
import Derived.Test.YtacgmmpdichlmaaGreatM00
import Derived.Lib.OthersKept
namespace Go.Proofs.YtacgmmpdichlmaaGreat
open Go.RowKit
attribute [local go_sem ↓] Go.wp_at_zero Go.wp_at_succ

/-- The call hands back a node in new memory, its rows apart. -/
def NdT (w : World) (d : Nd) (e : Ending) (w' : World) : Prop := ∃ (k : Int) (s : ByteArray) (y : Option Addr) (m c : Nat), e = .returned (.agg #[.int .i64 k, .string s, .slice y m c]) ∧ IsT w' w.heap.size w'.heap.size d (.agg #[.int .i64 k, .string s, .slice y m c]) ∧ Below w.heap.size w w'
def CopyTOk (d : Nd) : Prop := ∀ (v : Value) (w : World), Is w d v → d.count ≤ 900000 → Calls Tryz.prog 49 #[v] w (NdT w d)
theorem HT.rowof {B lo : Nat} {W : World} {ds : List Nd} {q n c : Nat} {y : Option Addr} (h : q < ds.length) (hx : HT B lo W (.slice y n c) (ds.take q ++ [ds[q]])) : Value.slice y n c = .slice y (q + 1) c ∧ HT B lo W (.slice y (q + 1) c) (ds.take (q + 1)) := by
  have hf := hx.form
  rw [take_snoc h] at hf hx
  obtain ⟨a, c', hf⟩ := hf
  cases hf
  have : (ds.take (q + 1)).length = q + 1 := by rw [List.length_take]; omega
  rw [this] at hx
  exact ⟨by rw [this], hx⟩
set_option maxRecDepth 100000 in
set_option maxHeartbeats 4000000 in
theorem copyT_any (d : Nd) : CopyTOk d := by
  refine Nd.ind_ (P := CopyTOk) ?_ d
  intro k s ks IH v w hD hcnt
  obtain ⟨x, rfl, hk, hs, hsl⟩ := hD.split
  have HSL := hide hsl
  have HIH := hide IH
  obtain ⟨a1, c1, rfl, hm1, -⟩ := hsl
  simp only [maxLen] at hm1
  rw [count_mk] at hcnt
  have hlc := len_count ks
  have HCM := hide (fun d h => Nat.le_trans (count_mem (ks := ks) (d := d) h) (show ks.count ≤ 900000 by omega))
  have HOF := hide (Nd.of_kids k s ks)
  clear hD IH
  obtain ⟨ds, hds⟩ : ∃ ds, ks.toL = ds := ⟨_, rfl⟩
  rw [hds] at HSL HIH HCM HOF hm1 hlc ⊢
  clear hds
  go_enter Tryz.func49, Tryz.ntmps49
  go_wp2_with fail
  refine namedWp fun W1 hW1 => ?_
  have HS1 := hide (show St w W1 [ne w.heap.size k s a1 ds.length c1, nz (w.heap.size + 1)] from St.onto hW1 (((St.nil w).var 24 _ (by simp)).var 24 _ (by simp)))
  have hz1 : W1.heap.size = w.heap.size + 2 := by rw [hW1]; simp
  have HZ1 := hide hz1
  clear hW1 hz1
  go_loopw [3, 9] (fun lv i wr => ∃ (q : Nat) (y : Option Addr) (c : Nat), lv = .slice y q c ∧ q ≤ ds.length ∧ i = .int .i64 q ∧ St w wr [ne w.heap.size k s a1 ds.length c1, nz (w.heap.size + 1)] ∧ HT w.heap.size (w.heap.size + 2) wr (.slice y q c) (ds.take q)) (fun _ i _ => ds.length - (intOf i).toNat)
  case atStart => exact ⟨0, none, 0, rfl, Nat.zero_le _, rfl, HS1.out, HT.nil (by rw [HZ1.out]; exact Nat.le_refl _)⟩
  obtain ⟨q, y, c, rfl, hq, rfl, hS, hH⟩ := hrel
  have HSr := hide hS
  have HRk := hide hH
  clear hS hH HS1
  by_cases hlt : q < ds.length
  ·
   have hlti : (q : Int) < (ds.length : Int) := by omega
   obtain ⟨b, o, cap2, k1, s1, y1, m1, e1, hv, hFb, g0, g1, g2, hc⟩ := HSL.out.kid hlt
   cases hv
   have HC := hide hc
   clear hc
   replace g0 := (Below.cell HSr.out.below (p := ⟨b, o + q * 3, none⟩) hFb).trans g0
   replace g1 := (Below.cell HSr.out.below (p := ⟨b, o + q * 3 + 1, none⟩) hFb).trans g1
   replace g2 := (Below.cell HSr.out.below (p := ⟨b, o + q * 3 + 2, none⟩) hFb).trans g2
   have p0 := (HSr.out.get 0 rfl).see3
   have p1 := (HSr.out.get 1 rfl).see3
   go_wp2_with fail
   have lv2_0 := (HSr.out.get 0 rfl).lt
   have lv2_1 := (HSr.out.get 1 rfl).lt
   refine named fun W2 hW2 => ?_
   have HS2 := hide (show St w W2 [ne w.heap.size k s (some ⟨b, o, none⟩) ds.length c1, nz (w.heap.size + 1), ne wr.heap.size k1 s1 y1 m1 e1] from St.onto hW2 (HSr.out.var 24 _ (by simp)))
   have HRl2 := hide (show HT w.heap.size (w.heap.size + 2) W2 (.slice y q c) (ds.take q) from HT.onto hW2 (HRk.out.al _))
   have HNV := hide (show ∀ x ∈ [ne w.heap.size k s (some ⟨b, o, none⟩) ds.length c1, nz (w.heap.size + 1), ne wr.heap.size k1 s1 y1 m1 e1], x.1 < w.heap.size + 2 ∨ (Value.slice y q c).ownBlock ≠ some x.1 from by
     have hol : ∀ g, (Value.slice y q c).ownBlock = some g → g < wr.heap.size := fun g e => by
       obtain ⟨xs, hi, h1, _⟩ := HRk.out
       exact (h1.lt g e).2
     intro x hx
     simp only [List.mem_cons, List.not_mem_nil, or_false] at hx
     rcases hx with rfl | rfl | rfl
     · exact Or.inl (show w.heap.size < w.heap.size + 2 by omega)
     · exact Or.inl (show w.heap.size + 1 < w.heap.size + 2 by omega)
     · exact Or.inr (fun e => Nat.lt_irrefl _ (hol _ e)))
   clear HRk
   clear hW2 HSr
   clear p0 p1
   have hI1 : Is W2 ds[q] _ := HC.out.below (HS2.out.below) HS2.out.below.size
   refine (HIH.out ds[q] (List.getElem_mem hlt) _ _ hI1 (HCM.out _ (List.getElem_mem hlt))).mono ?_
   rintro e w3 ⟨k3, s3, y3, m3, c3, rfl, hn3, hb3⟩
   have HS3 := hide (HS2.out.call hb3)
   have hlo : w.heap.size + 2 ≤ W2.heap.size := (HS2.out.get 1 rfl).lt
   obtain ⟨v4, w4, hr4, hH4, hS4, -⟩ := HRl2.out.snoc hb3 hn3 HS3.out hlo HNV.out (by rw [List.length_take]; omega)
   have p0 := (HS3.out.get 0 rfl).see3
   have p1 := (HS3.out.get 1 rfl).see3
   have p2 := (HS3.out.get 2 rfl).see3
   clear hI1 g0 g1 g2 hn3 hb3 HS2 HRl2
   have lv4_0 := (HS3.out.get 0 rfl).lt
   have lv4_1 := (HS3.out.get 1 rfl).lt
   have lv4_2 := (HS3.out.get 2 rfl).lt
   obtain ⟨y4, n4, c4, rfl⟩ := hH4.form'
   obtain ⟨hf4, hH4⟩ := HT.rowof hlt hH4
   clear HS3
   have HS4 := hide hS4
   have HRl4 := hide hH4
   have HF4 := hide hf4
   clear hS4 hH4 hf4
   have rr0 := (HS4.out.get 0 rfl).see3
   have rr1 := (HS4.out.get 1 rfl).see3
   have rr2 := (HS4.out.get 2 rfl).see3
   go_wp2_with (at_builtin; refine wpList_append_run rfl _ _ (by rfl) (by rfl) (by rfl) (by rfl) hr4 ?_)
   clear hr4 p0 p1 p2
   exact ⟨⟨q + 1, y4, c4, HF4.out, by omega, by go_num, HS4.out.cut 2 rfl, HRl4.out⟩, by simp [intOf]; omega⟩
  have p0 := (HSr.out.get 0 rfl).see3
  have p1 := (HSr.out.get 1 rfl).see3
  have hlti : ¬ (q : Int) < (ds.length : Int) := by omega
  obtain rfl : q = ds.length := by omega
  go_wp2_with fail
  refine namedPost fun W5 hW5 => ?_
  have HS5 := hide (show St w W5 [ne w.heap.size k s y ds.length c, ne (w.heap.size + 1) k s y ds.length c] from St.onto hW5 ((HSr.out.st 0 rfl 2 _).st3 1 rfl _ _ _))
  have HRl5 := hide (HT.onto hW5 ((HRk.out.st (by omega) _ _).st3 (by omega) _ _ _))
  clear HRk
  clear hW5 HSr
  clear p0 p1
  have hN := HT.node (k := k) (s := s) (lo' := w.heap.size) HRl5.out hk hs (by omega)
  rw [List.take_length, HOF.out] at hN
  exact ended_n rfl rfl (HS5.out.get 1 rfl) ⟨_, _, _, _, _, rfl, hN, HS5.out.below⟩
end Go.Proofs.YtacgmmpdichlmaaGreat
namespace Go.Proofs.YtacgmmpdichlmaaGreat
open Go.RowKit
attribute [local go_sem ↓] Go.wp_at_zero Go.wp_at_succ

/-- What is laid at ⟨b, o⟩ makes the node of block g another one: as G says. -/
def Plug (B : Nat) (W : World) (g b o l m : Nat) (G : Nd → Nd) : Prop := ∀ (W' : World) (z : Nd) (u0 u1 u2 : Value), W.heap.size ≤ W'.heap.size → (∀ k, k < W.heap.size → k ≠ b → (k < l ∨ m ≤ k) → W'.heap[k]? = W.heap[k]?) → (∀ i, i < o ∨ o + 3 ≤ i → W'.cell? ⟨b, i, none⟩ = W.cell? ⟨b, i, none⟩) →
  W'.cell? ⟨b, o, none⟩ = some u0 → W'.cell? ⟨b, o + 1, none⟩ = some u1 → W'.cell? ⟨b, o + 2, none⟩ = some u2 → IsNd W' (New B W') z (.agg #[u0, u1, u2]) →
  ∃ v0 v1 v2, W'.cell? ⟨g, 0, none⟩ = some v0 ∧ W'.cell? ⟨g, 1, none⟩ = some v1 ∧ W'.cell? ⟨g, 2, none⟩ = some v2 ∧ IsNd W' (New B W') (G z) (.agg #[v0, v1, v2])
theorem Plug.start (B : Nat) (W : World) (g l m : Nat) : Plug B W g g 0 l m id := fun _ _ u0 u1 u2 _ _ _ h0 h1 h2 hz => ⟨u0, u1, u2, h0, h1, h2, hz⟩
/-- A place: its node's rows lie in the blocks from l on, below m. -/
structure Place (B : Nat) (W : World) (b o l m : Nat) (d : Nd) (k : Int) (s : ByteArray) (y : Option Addr) (n c : Nat) : Prop where
  new : B ≤ b
  blk : ∃ cs, Blk W b 24 cs
  c0 : W.cell? ⟨b, o, none⟩ = some (.int .i64 k)
  c1 : W.cell? ⟨b, o + 1, none⟩ = some (.string s)
  c2 : W.cell? ⟨b, o + 2, none⟩ = some (.slice y n c)
  nd : IsT W l m d (.agg #[.int .i64 k, .string s, .slice y n c])
  lo : B ≤ l
  hi : m ≤ W.heap.size
  out : b < l ∨ m ≤ b
theorem Place.step {B : Nat} {W : World} {g b o l m : Nat} {k : Int} {s : ByteArray} {ks : Nds} {y : Option Addr} {n c : Nat} {G : Nd → Nd} (h : Place B W b o l m (.mk k s ks) k s y n c) (hp : Plug B W g b o l m G) {j : Nat} {x : Nd} (hj : ks.toL[j]? = some x) :
    n = ks.len ∧ ∃ bb k' s' y' n' c' l' m', y = some ⟨bb, 0, none⟩ ∧ Place B W bb (j * 3) l' m' x k' s' y' n' c' ∧ Plug B W g bb (j * 3) l' m' fun z => G (Nd.of k s (ks.toL.set j z)) := by
  have hnd := h.nd
  have hlt := (List.getElem?_eq_some_iff.1 hj).1
  rw [Nds.len_toL] at hlt
  rw [IsT] at hnd
  obtain ⟨a, cap, h0, h1, h3, h4, h5⟩ := hnd
  cases h0
  obtain ⟨bb, cs, rfl, hb1, hb2, hbl, hk⟩ := h5 (by omega)
  obtain ⟨l', m', c0, c1, c2, e1, e2, e3, e4, g0, g1, g2, hx, hput⟩ := hk.put hj
  rw [Nat.zero_add] at g0 g1 g2 hput
  obtain ⟨k', s', y', n', c', hv⟩ := IsNd.form (IsT.nd (w' := W) (F := fun _ => True) x l' m' _ (fun _ _ _ => ⟨rfl, trivial⟩) hx)
  simp only [Value.agg.injEq, Array.mk.injEq, List.cons.injEq, and_true] at hv
  obtain ⟨rfl, rfl, rfl⟩ := hv
  have hlo := h.lo
  have hhi := h.hi
  have hout := h.out
  obtain ⟨cs0, hb0⟩ := h.blk
  have hlb := hb0.lt
  refine ⟨rfl, bb, k', s', y', n', c', l', m', rfl, ⟨by omega, ⟨cs, hbl⟩, g0, g1, g2, hx, by omega, by omega, e4⟩, fun W' z u0 u1 u2 hz hk1 hc f0 f1 f2 hzn => ?_⟩
  have hbsame : W'.heap[b]? = W.heap[b]? := hk1 b hlb (by omega) (by omega)
  have hcb : ∀ i, W'.cell? ⟨b, i, none⟩ = W.cell? ⟨b, i, none⟩ := fun i => World.cell?_of_block (w := W) (a := ⟨b, i, none⟩) hbsame
  refine hp W' (Nd.of k s (ks.toL.set j z)) _ _ _ hz (fun i hi hne ho => hk1 i hi (by omega) (by omega)) (fun i _ => hcb i) ((hcb o).trans h.c0) ((hcb (o + 1)).trans h.c1) ((hcb (o + 2)).trans h.c2) ?_
  rw [Nd.of, IsNd, Nds.len_ofL, List.length_set, Nds.len_toL]
  refine ⟨some ⟨bb, 0, none⟩, c, rfl, h1, h3, h4, fun _ => ⟨bb, 0, rfl, ⟨by omega, by omega⟩, hput W' (New B W') z u0 u1 u2 (fun i hi1 hi2 hi3 hi4 => ⟨hk1 i (by omega) hi3 hi4, by omega, by omega⟩) hc f0 f1 f2 hzn⟩⟩
/-- What is laid there. -/
theorem Place.lay {B : Nat} {W w2 : World} {g b o l m : Nat} {d z : Nd} {k : Int} {s : ByteArray} {y : Option Addr} {n c : Nat} {G : Nd → Nd} (h : Place B W b o l m d k s y n c) (hp : Plug B W g b o l m G) (hb : Below W.heap.size W w2) {u0 u1 u2 : Value} (hz : IsNd w2 (New W.heap.size w2) z (.agg #[u0, u1, u2])) (hB : B ≤ W.heap.size) {W' : World} (hW' : W' = ((w2.setCell ⟨b, o, none⟩ u0).setCell ⟨b, o + 1, none⟩ u1).setCell ⟨b, o + 2, none⟩ u2) :
    ∃ v0 v1 v2, W'.cell? ⟨g, 0, none⟩ = some v0 ∧ W'.cell? ⟨g, 1, none⟩ = some v1 ∧ W'.cell? ⟨g, 2, none⟩ = some v2 ∧ IsNd W' (New B W') (G z) (.agg #[v0, v1, v2]) := by
  subst hW'
  obtain ⟨cs, hbl⟩ := h.blk
  have hlb := hbl.lt
  have hc2 := hbl.cell (o + 2)
  rw [h.c2] at hc2
  have hsz : o + 2 < cs.size := (Array.getElem?_eq_some_iff.1 hc2.symm).1
  have hb3 := ((((hbl.below hb hlb).set_ o u0).set_ (o + 1) u1).set_ (o + 2) u2)
  have hother : ∀ i, i ≠ b → (((w2.setCell ⟨b, o, none⟩ u0).setCell ⟨b, o + 1, none⟩ u1).setCell ⟨b, o + 2, none⟩ u2).heap[i]? = w2.heap[i]? := fun i hi => (Below.heap_setCell _ ⟨b, o + 2, none⟩ u2 i (show i ≠ b from hi)).trans ((Below.heap_setCell _ ⟨b, o + 1, none⟩ u1 i (show i ≠ b from hi)).trans (Below.heap_setCell _ ⟨b, o, none⟩ u0 i (show i ≠ b from hi)))
  refine hp _ z u0 u1 u2 (by simpa using hb.size) (fun i hi hne _ => (hother i hne).trans (hb.block i hi)) (fun i hi => ?_) ?_ ?_ ?_ (IsNd.keep (fun i hi => ⟨⟨Nat.le_trans hB hi.1, by simpa using hi.2⟩, hother i (by have := hi.1; omega)⟩) _ _ hz)
  · rw [hb3.cell i, hbl.cell i, Array.getElem?_setIfInBounds_ne (by omega), Array.getElem?_setIfInBounds_ne (by omega), Array.getElem?_setIfInBounds_ne (by omega)]
  · rw [hb3.cell o, Array.getElem?_setIfInBounds_ne (by omega), Array.getElem?_setIfInBounds_ne (by omega), Array.getElem?_setIfInBounds_self_of_lt (by omega)]
  · rw [hb3.cell (o + 1), Array.getElem?_setIfInBounds_ne (by omega), Array.getElem?_setIfInBounds_self_of_lt (by simp; omega)]
  · rw [hb3.cell (o + 2), Array.getElem?_setIfInBounds_self_of_lt (by simp; omega)]
theorem withN_drop {x : Nd} {p : List Int} {q : Nat} (h : q < p.length) (k : Int) (s : ByteArray) (ks : Nds) : withN x (p.drop q) (.mk k s ks) = ((kidI ks.toL p[q]).bind (withN x (p.drop (q + 1)))).map fun z => Nd.of k s (ks.toL.set p[q].toNat z) := by
  rw [List.drop_eq_getElem_cons h, withN]

set_option maxRecDepth 100000 in
set_option maxHeartbeats 4000000 in
theorem with_any {d x : Nd} {v u z : Value} {p : List Int} {w : World} (hD : Is w d v) (hcnt : d.count ≤ 900000) (hX : Is w x z) (hcx : x.count ≤ 900000) (hP : IsPath w (· < w.heap.size) u p) :
    Calls Tryz.prog 36 #[v, u, z] w (AtP (fun W => New w.heap.size W) w (withN x p d)) := by
  obtain ⟨k0, s0, y0, m0, c0, rfl⟩ := hD.form
  obtain ⟨kx, sx, yx, mx, cx, rfl⟩ := hX.form
  obtain ⟨pa, pc, rfl, hpl, -⟩ := id hP
  have HP := hide hP
  have HD := hide hD
  have HX := hide hX
  simp only [maxLen] at hpl
  clear hP hD hX
  obtain ⟨W1, hW1⟩ : ∃ W1, ((w.alloc (.cells #[.int .i64 k0, .string s0, .slice y0 m0 c0] 24)).alloc (.cells #[.int .i64 kx, .string sx, .slice yx mx cx] 24)).alloc (.cells #[.int .i64 0, .string ⟨#[]⟩, .slice none 0 0] 24) = W1 := ⟨_, rfl⟩
  have HS1 := hide (show St w W1 [ne w.heap.size k0 s0 y0 m0 c0, ne (w.heap.size + 1) kx sx yx mx cx, nz (w.heap.size + 1 + 1)] from St.onto hW1.symm ((((St.nil w).var 24 _ (by simp)).var 24 _ (by simp)).var 24 _ (by simp)))
  have HZ1 := hide (show W1.heap.size = w.heap.size + 3 by rw [← hW1]; simp)
  have HC := hide (copyT_any d _ W1 (HD.out.below HS1.out.below) hcnt)
  have p0 := (HS1.out.get 0 rfl).see3
  have p1 := (HS1.out.get 1 rfl).see3
  have p2 := (HS1.out.get 2 rfl).see3
  go_enter Tryz.func36, Tryz.ntmps36
  go_wp2_with fail
  refine HC.out.mono ?_
  rintro e w2 ⟨k2, s2, y2, m2, c2, rfl, hn2, hb2⟩
  have HS2 := hide (HS1.out.call hb2)
  have HT2 := hide hn2
  have HB2 := hide hb2
  have lv0 := (HS2.out.get 0 rfl).lt
  have lv1 := (HS2.out.get 1 rfl).lt
  have lv2 := (HS2.out.get 2 rfl).lt
  clear p0 p1 p2 hn2 hb2 hW1
  go_wp2_with fail
  refine namedWp fun W3 hW3 => ?_
  have HS3 := hide (show St w W3 [ne w.heap.size k0 s0 y0 m0 c0, ne (w.heap.size + 1) kx sx yx mx cx, nz (w.heap.size + 1 + 1), ne w2.heap.size k2 s2 y2 m2 c2] from St.onto hW3 (HS2.out.var 24 _ (by simp)))
  have hz3 : W3.heap.size = w2.heap.size + 1 := by rw [hW3]; simp
  have hb3 : Below w2.heap.size w2 W3 := hW3 ▸ (Below.refl _ w2).alloc (Nat.le_refl _) _
  have HPL := hide (show Place W1.heap.size W3 w2.heap.size 0 W1.heap.size w2.heap.size d k2 s2 y2 m2 c2 from ⟨HB2.out.size, ⟨_, HS3.out.get 3 rfl⟩, (HS3.out.get 3 rfl).cell 0, (HS3.out.get 3 rfl).cell 1, (HS3.out.get 3 rfl).cell 2, IsT.keep _ _ _ _ _ _ (Nat.le_refl _) (Nat.le_refl _) (fun k h1 h2 => hb3.block k h2) HT2.out, Nat.le_refl _, by omega, Or.inr (Nat.le_refl _)⟩)
  have HP3 := hide (HP.out.below HS3.out.below)
  have HX3 := hide (HX.out.below HS3.out.below)
  have HZ3 := hide hz3
  have hB12 := HB2.out.size
  clear hW3 hb3 hz3 HS2 HT2 HS1 HP HD HX HC lv0 lv1 lv2
  have q2 := (HS3.out.get 2 rfl).see3
  go_loopw [9, 16] (fun xv iv wr => ∃ (q : Nat) (d' : Nd) (b o l m : Nat) (k : Int) (s : ByteArray) (y : Option Addr) (n c : Nat) (G : Nd → Nd), xv = .pointer (some ⟨b, o, none⟩) ∧ iv = .int .i64 q ∧ q ≤ p.length ∧ wr = W3 ∧ Place W1.heap.size W3 b o l m d' k s y n c ∧ Plug W1.heap.size W3 w2.heap.size b o l m G ∧ withN x p d = (withN x (p.drop q) d').map G) (fun _ iv _ => p.length - (intOf iv).toNat)
  case atStart => exact ⟨0, d, w2.heap.size, 0, W1.heap.size, w2.heap.size, k2, s2, y2, m2, c2, id, rfl, rfl, Nat.zero_le _, rfl, HPL.out, Plug.start _ _ _ _ _, by simp⟩
  case round =>
    obtain ⟨q, d', b, o, l, m, k, s, y, n, c, G, rfl, rfl, hq, rfl, hpl', hpg, hwi⟩ := hrel
    have HPLC := hide hpl'
    have HPG := hide hpg
    have HWI := hide hwi
    clear hpl' hpg hwi HPL
    have r0 := HPLC.out.c0
    have r1 := HPLC.out.c1
    have r2 := HPLC.out.c2
    by_cases hlt : q < p.length
    · have hlti : (q : Int) < (p.length : Int) := by omega
      obtain ⟨pb, po, rfl, hpb, gp⟩ := HP3.out.get hlt
      obtain ⟨i, hi⟩ : ∃ i, p[q] = i := ⟨_, rfl⟩
      rw [hi] at gp
      have HI := hide hi
      clear hi
      obtain ⟨kd, sd, ks⟩ := d'
      obtain ⟨rfl, rfl⟩ : kd = k ∧ sd = s := by
        have := HPLC.out.nd
        rw [IsT] at this
        obtain ⟨a, cap, h0, _⟩ := this
        cases h0
        exact ⟨rfl, rfl⟩
      have hnl : n = ks.toL.length ∧ n ≤ maxLen := by
        have := HPLC.out.nd
        rw [IsT] at this
        obtain ⟨a, cap, h0, _, _, h3, _⟩ := this
        cases h0
        exact ⟨by rw [Nds.len_toL], h3⟩
      by_cases hin : 0 ≤ i ∧ i.toNat < ks.toL.length
      · obtain ⟨j, rfl⟩ : ∃ j : Nat, i = j := ⟨i.toNat, by omega⟩
        have hj : j < ks.toL.length := by omega
        obtain ⟨-, bb, k', s', y', n', c', l', m', rfl, hP', hG'⟩ := HPLC.out.step HPG.out (List.getElem?_eq_getElem hj)
        have HP' := hide hP'
        have HG' := hide hG'
        have hwi2 : withN x p d = (withN x (p.drop (q + 1)) ks.toL[j]).map fun z => G (Nd.of kd sd (ks.toL.set j z)) := by
          rw [HWI.out, withN_drop hlt, HI.out, kidI_ofNat, List.getElem?_eq_getElem hj]
          simp
          rfl
        have HWI2 := hide hwi2
        have hnm := hnl.2
        have hjn : j < n := by omega
        clear hP' hG' hwi2 hin hnl
        go_wp2_with fail
        refine (kid_in r2 hjn hnm).mono ?_
        rintro e w3 ⟨rfl, rfl⟩
        rw [Nat.zero_add]
        go_wp2_with fail
        exact ⟨⟨q + 1, ks.toL[j], bb, j * 3, l', m', k', s', y', n', c', _, rfl, by go_num, by omega, trivial, HP'.out, HG'.out, HWI2.out⟩, by simp [intOf]; omega⟩
      · have hwi2 : withN x p d = none := by
          rw [HWI.out, withN_drop hlt, HI.out]
          have : kidI ks.toL i = none := by
            cases hkk : kidI ks.toL i with
            | none => rfl
            | some z =>
              obtain ⟨h1, h2⟩ := kidI_some hkk
              exact absurd ⟨h1, (List.getElem?_eq_some_iff.1 h2).1⟩ hin
          rw [this]; rfl
        have HWI2 := hide hwi2
        have hout : i < 0 ∨ (n : Int) ≤ i := by omega
        clear hwi2 hin hnl
        go_wp2_with fail
        refine (kid_out r2 hout).mono ?_
        rintro e w3 ⟨rfl, rfl⟩
        go_wp2_with fail
        rw [HWI2.out]
        exact ended_nb_ rfl rfl rfl ((HS3.out.st3 2 rfl _ _ _).get 2 rfl) ⟨rfl, (HS3.out.st3 2 rfl _ _ _).below⟩
    · have hlti : ¬ (q : Int) < (p.length : Int) := by omega
      have hwi2 : withN x p d = some (G x) := by rw [HWI.out, List.drop_eq_nil_of_le (by omega), withN]; rfl
      have HWI2 := hide hwi2
      have hbl := HPLC.out.blk
      obtain ⟨cs, hbl⟩ := hbl
      have HBL := hide hbl
      have p1 := (HS3.out.get 1 rfl).see3
      clear hwi2 hbl
      go_wp2_with fail
      refine (copy_any x _ _ HX3.out hcx).mono ?_
      rintro e w4 ⟨k4, s4, y4, m4, c4, rfl, hn4, hb4⟩
      have HS4 := hide (HS3.out.call hb4)
      have hlb := HBL.out.lt
      have HBL4 := hide (HBL.out.below hb4 hlb)
      have f0 := HBL4.out.frozen o
      have f1 := HBL4.out.frozen (o + 1)
      have f2 := HBL4.out.frozen (o + 2)
      have g0 := (hb4.cell (p := ⟨b, o, none⟩) hlb).trans r0
      have g1 := (hb4.cell (p := ⟨b, o + 1, none⟩) hlb).trans r1
      have g2 := (hb4.cell (p := ⟨b, o + 2, none⟩) hlb).trans r2
      have hlb4 : b < w4.heap.size := HBL4.out.lt
      have HN4 := hide hn4
      have HB4 := hide hb4
      clear r0 r1 r2 p1 q2 hn4 hb4
      go_wp2_with (refine stopAt 31 ?_)
      refine namedStop fun W5 hW5 => ?_
      have hbge := HPLC.out.new
      have hzz := HZ1.out
      have hBW : W1.heap.size ≤ wr.heap.size := by have := HZ3.out; omega
      obtain ⟨v0, v1, v2, e0, e1, e2, hnf⟩ := HPLC.out.lay HPG.out HB4.out HN4.out hBW hW5
      obtain ⟨k5, s5, y5, n5, c5, hv⟩ := hnf.form
      simp only [Value.agg.injEq, Array.mk.injEq, List.cons.injEq, and_true] at hv
      obtain ⟨rfl, rfl, rfl⟩ := hv
      have HNF := hide hnf
      have hR5 : Blk W5 (w.heap.size + 1 + 1) 24 #[.int .i64 0, .string ⟨#[]⟩, .slice none 0 0] := by
        rw [hW5]
        exact (((HS4.out.get 2 rfl).far (show w.heap.size + 1 + 1 ≠ b by omega) _).far (show w.heap.size + 1 + 1 ≠ b by omega) _).far (show w.heap.size + 1 + 1 ≠ b by omega) _
      have hb5 : Below w.heap.size w W5 := by
        rw [hW5]
        exact bl_st (bl_st (bl_st HS4.out.below (by omega) _ _) (by omega) _ _) (by omega) _ _
      have HR5 := hide hR5
      have HB5 := hide hb5
      have q2 := hR5.see3
      clear hW5 hnf hR5 hb5 f0 f1 f2 g0 g1 g2 HS4
      go_wp2_with fail
      rw [HWI2.out]
      exact ended_nb_ rfl rfl rfl (((HR5.out.set_ 0 _).set_ 1 _).set_ 2 _) ⟨⟨_, _, _, _, _, rfl, IsNd.keep (fun i hi => ⟨⟨by have := hi.1; omega, by simpa using hi.2⟩, by
        have := hi.1
        exact (Below.heap_setCell _ ⟨w.heap.size + 1 + 1, 2, none⟩ _ i (show i ≠ w.heap.size + 1 + 1 by omega)).trans ((Below.heap_setCell _ ⟨w.heap.size + 1 + 1, 1, none⟩ _ i (show i ≠ w.heap.size + 1 + 1 by omega)).trans (Below.heap_setCell _ ⟨w.heap.size + 1 + 1, 0, none⟩ _ i (show i ≠ w.heap.size + 1 + 1 by omega)))⟩) _ _ HNF.out⟩, bl_st3 HB5.out (by omega) _ _ _⟩
end Go.Proofs.YtacgmmpdichlmaaGreat
namespace Go.Proofs.YtacgmmpdichlmaaGreat
open Go.RowKit
attribute [local go_sem ↓] Go.wp_at_zero Go.wp_at_succ

/-- Without the bracket there. -/
def withoutN (p : List Int) (d : Nd) : Option Nd := (atN p d).bind fun x => if x.br then withN (openN x) p d else none
/-- Where a place is, something can be laid. -/
theorem with_some (z : Nd) : ∀ (p : List Int) (d x : Nd), atN p d = some x → ∃ m, withN z p d = some m
  | [], d, x, _ => ⟨z, rfl⟩
  | i :: p, .mk k s ks, x, h => by
    rw [atN] at h
    cases hk : kidI ks.toL i with
    | none => rw [show kidI (Nd.kids (.mk k s ks)) i = none from hk] at h; cases h
    | some y =>
      rw [show kidI (Nd.kids (.mk k s ks)) i = some y from hk, Option.bind_some] at h
      obtain ⟨m, hm⟩ := with_some z p y x h
      exact ⟨_, by rw [withN, hk, Option.bind_some, hm]; rfl⟩
theorem at_count : ∀ (p : List Int) (d x : Nd), atN p d = some x → x.count ≤ d.count
  | [], d, x, h => by
    rw [atN, Option.some.injEq] at h
    subst h
    exact Nat.le_refl _
  | i :: p, d, x, h => by
    rw [atN] at h
    cases hk : kidI d.kids i with
    | none => rw [hk] at h; cases h
    | some y =>
      rw [hk, Option.bind_some] at h
      exact Nat.le_trans (at_count p y x h) (count_kid hk)
theorem open_count {d : Nd} (h : d.br = true) : (openN d).count ≤ d.count := by
  obtain ⟨hp, ho⟩ := open_yes h
  rw [ho]
  exact count_kid (i := (0 : Nat)) (by rw [kidI_ofNat]; exact List.getElem?_eq_getElem hp)

set_option maxRecDepth 100000 in
set_option maxHeartbeats 4000000 in
theorem without_any {d : Nd} {v u : Value} {p : List Int} {w : World} (hD : Is w d v) (hcnt : d.count ≤ 900000) (hP : IsPath w (· < w.heap.size) u p) :
    Calls Tryz.prog 17 #[v, u] w (AtP (fun W => New w.heap.size W) w (withoutN p d)) := by
  obtain ⟨k0, s0, y0, m0, c0, rfl⟩ := hD.form
  obtain ⟨pa, pc, rfl, hpl, -⟩ := id hP
  have HP := hide hP
  have HD := hide hD
  clear hP hD hpl
  obtain ⟨W1, hW1⟩ : ∃ W1, (w.alloc (.cells #[.int .i64 k0, .string s0, .slice y0 m0 c0] 24)).alloc (.cells #[.int .i64 0, .string ⟨#[]⟩, .slice none 0 0] 24) = W1 := ⟨_, rfl⟩
  have HS1 := hide (show St w W1 [ne w.heap.size k0 s0 y0 m0 c0, nz (w.heap.size + 1)] from St.onto hW1.symm (((St.nil w).var 24 _ (by simp)).var 24 _ (by simp)))
  have HZ1 := hide (show W1.heap.size = w.heap.size + 2 by rw [← hW1]; simp)
  have HC := hide (at_any (HD.out.below HS1.out.below) hcnt (HP.out.below HS1.out.below))
  have p0 := (HS1.out.get 0 rfl).see3
  have p1 := (HS1.out.get 1 rfl).see3
  go_enter Tryz.func17, Tryz.ntmps17
  go_wp2_with fail
  refine HC.out.mono ?_
  rintro e w2 ⟨hm, hb2⟩
  have HS2 := hide (HS1.out.call hb2)
  have HB2 := hide hb2
  have lv0 := (HS2.out.get 0 rfl).lt
  have lv1 := (HS2.out.get 1 rfl).lt
  clear p0 p1 hb2 hW1 HC
  cases hat : atN p d with
  | none =>
    rw [hat] at hm
    obtain rfl := hm
    have HW := hide (show withoutN p d = none by rw [withoutN, hat]; rfl)
    have p0 := (HS2.out.get 0 rfl).see3
    have p1 := (HS2.out.get 1 rfl).see3
    clear hat
    go_wp2_with fail
    refine namedPost fun W5 hW5 => ?_
    have HS5 := hide (show St w W5 [ne w.heap.size k0 s0 y0 m0 c0, nz (w.heap.size + 1), nz w2.heap.size] from St.onto hW5 ((HS2.out.st3 1 rfl _ _ _).var 24 _ (by simp)))
    rw [HW.out]
    exact ended_nb_ rfl rfl rfl (HS5.out.get 1 rfl) ⟨rfl, HS5.out.below⟩
  | some x =>
    rw [hat] at hm
    obtain ⟨k, s, y, m, c, rfl, hnx⟩ := hm
    have HNX := hide hnx
    have HAT := hide hat
    obtain ⟨W3, hW3⟩ : ∃ W3, w2.alloc (.cells #[.int .i64 k, .string s, .slice y m c] 24) = W3 := ⟨_, rfl⟩
    have HS3 := hide (show St w W3 [ne w.heap.size k0 s0 y0 m0 c0, nz (w.heap.size + 1), ne w2.heap.size k s y m c] from St.onto hW3.symm (HS2.out.var 24 _ (by simp)))
    have hb3 : Below w2.heap.size w2 W3 := hW3 ▸ (Below.refl _ w2).alloc (Nat.le_refl _) _
    have HB3 := hide hb3
    have hnx3 : IsNd W3 (New W1.heap.size w2) x (.agg #[.int .i64 k, .string s, .slice y m c]) := IsNd.keep (fun b hb => ⟨hb, hb3.block b hb.2⟩) _ _ hnx
    have HX3 := hide hnx3
    have HBR := hide (bracketB_any hnx3)
    have hxc := at_count p d x hat
    have p0 := (HS3.out.get 0 rfl).see3
    have p1 := (HS3.out.get 1 rfl).see3
    have p2 := (HS3.out.get 2 rfl).see3
    clear hat hnx hb3 hnx3
    go_wp2_with fail
    refine HBR.out.mono ?_
    rintro e w4 ⟨rfl, hb4⟩
    have HS4 := hide (HS3.out.call hb4)
    have HB4 := hide hb4
    clear p0 p1 p2 hb4 HBR hW3 HS2
    cases hbr : x.br with
    | false =>
      have HW := hide (show withoutN p d = none by rw [withoutN, HAT.out, Option.bind_some, hbr]; rfl)
      have p1 := (HS4.out.get 1 rfl).see3
      clear hbr
      go_wp2_with fail
      rw [HW.out]
      exact ended_nb_ rfl rfl rfl ((HS4.out.st3 1 rfl _ _ _).get 1 rfl) ⟨rfl, (HS4.out.st3 1 rfl _ _ _).below⟩
    | true =>
      have HW := hide (show withoutN p d = withN (openN x) p d by rw [withoutN, HAT.out, Option.bind_some, hbr]; rfl)
      obtain ⟨hpos, ho⟩ := open_yes hbr
      have hoc := open_count hbr
      have hx4 : IsNd w4 (New W1.heap.size w2) x (.agg #[.int .i64 k, .string s, .slice y m c]) := IsNd.keep (fun b hb => ⟨hb, HB4.out.block b (by have := hb.2; have := HB3.out.size; omega)⟩) _ _ HX3.out
      obtain ⟨hm, hml, hsl, -, -⟩ := hx4.out
      obtain ⟨b, o, cap2, k1, s1, y1, m1, e1, hv, hFb, g0, g1, g2, hc⟩ := hsl.kid hpos
      have hm1 : x.kids.length = 1 := by
        rw [br_of] at hbr
        simpa using (Bool.and_eq_true_iff.1 hbr).2
      rw [hm1] at hv hm
      subst hm
      cases hv
      simp only [Nat.zero_mul, Nat.add_zero] at g0 g1 g2
      have HK := hide (show IsNd w4 (New W1.heap.size w2) (openN x) (.agg #[.int .i64 k1, .string s1, .slice y1 m1 e1]) from ho ▸ hc)
      have hlt0 : w.heap.size < w4.heap.size := (HS4.out.get 0 rfl).lt
      have hlt2 : w2.heap.size < w4.heap.size := (HS4.out.get 2 rfl).lt
      have hb4 : b < w4.heap.size := World.block_lt_of_cell? w4 ⟨b, o, none⟩ g0
      have hbge : w.heap.size + 2 ≤ b := by have := hFb.1; have := HZ1.out; omega
      have hw2ge : w.heap.size + 2 ≤ w2.heap.size := lv1
      have hSn := show w4.cell? ⟨w.heap.size, 0, none⟩ = some (.int .i64 k0) ∧ w4.cell? ⟨w.heap.size, 1, none⟩ = some (.string s0) ∧ w4.cell? ⟨w.heap.size, 2, none⟩ = some (.slice y0 m0 c0) ∧ w4.cell? ⟨w2.heap.size, 2, none⟩ = some (.slice (some ⟨b, o, none⟩) 1 c) ∧ w4.cell? ⟨b, o, none⟩ = some (.int .i64 k1) ∧ w4.cell? ⟨b, o + 1, none⟩ = some (.string s1) ∧ w4.cell? ⟨b, o + 2, none⟩ = some (.slice y1 m1 e1) from ⟨(HS4.out.get 0 rfl).cell 0, (HS4.out.get 0 rfl).cell 1, (HS4.out.get 0 rfl).cell 2, (HS4.out.get 2 rfl).cell 2, g0, g1, g2⟩
      have HKS := hide (show ∀ W : World, Below w4.heap.size w4 W → W.cell? ⟨w.heap.size, 0, none⟩ = some (.int .i64 k0) ∧ W.cell? ⟨w.heap.size, 1, none⟩ = some (.string s0) ∧ W.cell? ⟨w.heap.size, 2, none⟩ = some (.slice y0 m0 c0) ∧ W.cell? ⟨w2.heap.size, 2, none⟩ = some (.slice (some ⟨b, o, none⟩) 1 c) ∧ W.cell? ⟨b, o, none⟩ = some (.int .i64 k1) ∧ W.cell? ⟨b, o + 1, none⟩ = some (.string s1) ∧ W.cell? ⟨b, o + 2, none⟩ = some (.slice y1 m1 e1) from fun W h => ⟨(h.cell (p := ⟨w.heap.size, 0, none⟩) hlt0).trans hSn.1, (h.cell (p := ⟨w.heap.size, 1, none⟩) hlt0).trans hSn.2.1, (h.cell (p := ⟨w.heap.size, 2, none⟩) hlt0).trans hSn.2.2.1, (h.cell (p := ⟨w2.heap.size, 2, none⟩) hlt2).trans hSn.2.2.2.1, (h.cell (p := ⟨b, o, none⟩) hb4).trans g0, (h.cell (p := ⟨b, o + 1, none⟩) hb4).trans g1, (h.cell (p := ⟨b, o + 2, none⟩) hb4).trans g2⟩)
      have HKT := hide (show ∀ (W : World) (i : Nat) (u : Value), (W.cell? ⟨w.heap.size, 0, none⟩ = some (.int .i64 k0) ∧ W.cell? ⟨w.heap.size, 1, none⟩ = some (.string s0) ∧ W.cell? ⟨w.heap.size, 2, none⟩ = some (.slice y0 m0 c0) ∧ W.cell? ⟨w2.heap.size, 2, none⟩ = some (.slice (some ⟨b, o, none⟩) 1 c) ∧ W.cell? ⟨b, o, none⟩ = some (.int .i64 k1) ∧ W.cell? ⟨b, o + 1, none⟩ = some (.string s1) ∧ W.cell? ⟨b, o + 2, none⟩ = some (.slice y1 m1 e1)) → ((W.setCell ⟨w.heap.size + 1, i, none⟩ u).cell? ⟨w.heap.size, 0, none⟩ = some (.int .i64 k0) ∧ (W.setCell ⟨w.heap.size + 1, i, none⟩ u).cell? ⟨w.heap.size, 1, none⟩ = some (.string s0) ∧ (W.setCell ⟨w.heap.size + 1, i, none⟩ u).cell? ⟨w.heap.size, 2, none⟩ = some (.slice y0 m0 c0) ∧ (W.setCell ⟨w.heap.size + 1, i, none⟩ u).cell? ⟨w2.heap.size, 2, none⟩ = some (.slice (some ⟨b, o, none⟩) 1 c) ∧ (W.setCell ⟨w.heap.size + 1, i, none⟩ u).cell? ⟨b, o, none⟩ = some (.int .i64 k1) ∧ (W.setCell ⟨w.heap.size + 1, i, none⟩ u).cell? ⟨b, o + 1, none⟩ = some (.string s1) ∧ (W.setCell ⟨w.heap.size + 1, i, none⟩ u).cell? ⟨b, o + 2, none⟩ = some (.slice y1 m1 e1)) from fun W i u h => ⟨(W.cell?_setCell_far ⟨w.heap.size + 1, i, none⟩ ⟨w.heap.size, 0, none⟩ u (show w.heap.size + 1 ≠ w.heap.size by omega)).trans h.1, (W.cell?_setCell_far ⟨w.heap.size + 1, i, none⟩ ⟨w.heap.size, 1, none⟩ u (show w.heap.size + 1 ≠ w.heap.size by omega)).trans h.2.1, (W.cell?_setCell_far ⟨w.heap.size + 1, i, none⟩ ⟨w.heap.size, 2, none⟩ u (show w.heap.size + 1 ≠ w.heap.size by omega)).trans h.2.2.1, (W.cell?_setCell_far ⟨w.heap.size + 1, i, none⟩ ⟨w2.heap.size, 2, none⟩ u (show w.heap.size + 1 ≠ w2.heap.size by omega)).trans h.2.2.2.1, (W.cell?_setCell_far ⟨w.heap.size + 1, i, none⟩ ⟨b, o, none⟩ u (show w.heap.size + 1 ≠ b by omega)).trans h.2.2.2.2.1, (W.cell?_setCell_far ⟨w.heap.size + 1, i, none⟩ ⟨b, o + 1, none⟩ u (show w.heap.size + 1 ≠ b by omega)).trans h.2.2.2.2.2.1, (W.cell?_setCell_far ⟨w.heap.size + 1, i, none⟩ ⟨b, o + 2, none⟩ u (show w.heap.size + 1 ≠ b by omega)).trans h.2.2.2.2.2.2⟩)
      clear hc hbr hsl g0 g1 g2 ho hm1
      have p1 := (HS4.out.get 1 rfl).see3
      go_wp2_with fail
      refine wp_region_held_drew (S := fun W => W.cell? ⟨w.heap.size, 0, none⟩ = some (.int .i64 k0) ∧ W.cell? ⟨w.heap.size, 1, none⟩ = some (.string s0) ∧ W.cell? ⟨w.heap.size, 2, none⟩ = some (.slice y0 m0 c0) ∧ W.cell? ⟨w2.heap.size, 2, none⟩ = some (.slice (some ⟨b, o, none⟩) 1 c) ∧ W.cell? ⟨b, o, none⟩ = some (.int .i64 k1) ∧ W.cell? ⟨b, o + 1, none⟩ = some (.string s1) ∧ W.cell? ⟨b, o + 2, none⟩ = some (.slice y1 m1 e1)) (by kernel_rfl) ?_ (fun hHeld => ?_)
      · exact HKS.out _ (bl_dr (Below.refl _ w4))
      refine namedAny fun W5 hW5 => ?_
      have hb5 : Below w4.heap.size w4 W5 := hW5 ▸ bl_dr (Below.refl _ w4)
      have HS5 := hide (St.onto hW5 HS4.out.dr)
      replace hSn := HKS.out _ hb5
      clear hHeld p1 hW5
      refine tC 0 (by assumption) ?_
      refine tC 1 (by assumption) ?_
      refine tC 2 (by assumption) ?_
      refine tC 3 (by assumption) ?_
      refine tC 4 (by assumption) ?_
      refine tC 5 (by assumption) ?_
      clear hSn
      have HCW := hide (with_any (w := W5) (d := d) (x := openN x) (HD.out.below HS5.out.below) hcnt (z := .agg #[.int .i64 k1, .string s1, .slice y1 m1 e1]) (IsNd.keep (fun i hi => ⟨by have := hi.2; have := HB3.out.size; have := HB4.out.size; have := hb5.size; omega, hb5.block i (by have := hi.2; have := HB3.out.size; have := HB4.out.size; omega)⟩) _ _ HK.out) (by omega) (HP.out.below HS5.out.below))
      refine wpAnyH_ready (rs := [6]) (by kernel_rfl) (by simp) ?_
      refine AllReadyH.cons rfl (fun K hK => ?_) AllReadyH.nil
      go_simp
      refine HCW.out.mono ?_
      rintro e w6 ⟨hm6, hb6⟩
      obtain ⟨mm, hmm⟩ := with_some (openN x) p d x HAT.out
      rw [hmm] at hm6
      obtain ⟨k6, s6, y6, m6, c6, rfl, hn6⟩ := hm6
      have HN6 := hide hn6
      have HS6 := hide (HS5.out.call hb6)
      have hb46 := hb5.trans (hb6.mono hb5.size)
      clear HCW hn6
      go_simp
      refine hK.out _ _ (HKS.out _ hb46) (fun hHeld => ?_)
      clear hK K hHeld
      have hSn := HKS.out _ hb46
      refine tC 7 (by assumption) ?_
      refine tC 8 (by assumption) ?_
      clear hSn
      have p1 := (HS6.out.get 1 rfl).see3
      refine wpAnyH_ready (rs := [9]) (by kernel_rfl) (by simp) ?_
      refine AllReadyH.cons rfl (fun K hK => ?_) AllReadyH.nil
      go_simp
      have hS9 := HKT.out _ 2 (.slice y6 m6 c6) (HKT.out _ 1 (.string s6) (HKT.out _ 0 (.int .i64 k6) (HKS.out _ hb46)))
      refine hK.out _ _ hS9 (fun hHeld => ?_)
      clear hK K hHeld
      refine wpAnyH_ready (rs := [10]) (by kernel_rfl) (by simp) ?_
      refine AllReadyH.cons rfl (fun K hK => ?_) AllReadyH.nil
      go_simp
      refine hK.out _ _ hS9 (fun hHeld => ?_)
      clear hK K hHeld hS9
      refine wpAnyH_done (by kernel_rfl) ?_ _
      go_wp2_with fail
      rw [HW.out, hmm]
      exact ended_nb_ rfl rfl rfl ((HS6.out.st3 1 rfl _ _ _).get 1 rfl) ⟨⟨_, _, _, _, _, rfl, IsNd.keep (fun i hi => ⟨⟨by have := hi.1; have := HS5.out.below.size; omega, by simpa using hi.2⟩, by
        have := hi.1
        have := (HS5.out.get 1 rfl).lt
        exact (Below.heap_setCell _ ⟨w.heap.size + 1, 2, none⟩ _ i (show i ≠ w.heap.size + 1 by omega)).trans ((Below.heap_setCell _ ⟨w.heap.size + 1, 1, none⟩ _ i (show i ≠ w.heap.size + 1 by omega)).trans (Below.heap_setCell _ ⟨w.heap.size + 1, 0, none⟩ _ i (show i ≠ w.heap.size + 1 by omega)))⟩) _ _ HN6.out⟩, (HS6.out.st3 1 rfl _ _ _).below⟩
end Go.Proofs.YtacgmmpdichlmaaGreat
namespace Go.Proofs.YtacgmmpdichlmaaGreat
open Go.RowKit
attribute [local go_sem ↓] Go.wp_at_zero Go.wp_at_succ

set_option maxRecDepth 100000 in
set_option maxHeartbeats 4000000 in
theorem refWithout_any {d : Nd} {v u : Value} {p : List Int} {w : World} (hD : Is w d v) (hcnt : d.count ≤ 900000) (hP : IsPath w (· < w.heap.size) u p) :
    Calls Tryz.prog 26 #[v, u] w (AtP (fun W b => b < W.heap.size) w (withoutN p d)) := by
  obtain ⟨k0, s0, y0, m0, c0, rfl⟩ := hD.form
  obtain ⟨pa, pc, rfl, hpl, -⟩ := id hP
  have HP := hide hP
  have HD := hide hD
  clear hP hD hpl
  obtain ⟨Wa, hWa⟩ : ∃ Wa, (w.alloc (.cells #[.int .i64 k0, .string s0, .slice y0 m0 c0] 24)).alloc (.cells #[.int .i64 0, .string ⟨#[]⟩, .slice none 0 0] 24) = Wa := ⟨_, rfl⟩
  have HSa := hide (show St w Wa [ne w.heap.size k0 s0 y0 m0 c0, nz (w.heap.size + 1)] from St.onto hWa.symm (((St.nil w).var 24 _ (by simp)).var 24 _ (by simp)))
  have HC := hide (refAtF_any (w := Wa) (F := (· < w.heap.size)) (IsNd.keep (fun b hb => ⟨hb, HSa.out.below.block b hb⟩) _ _ HD.out) (fun b hb => Nat.lt_of_lt_of_le hb HSa.out.below.size) (HP.out.below HSa.out.below))
  have p0 := (HSa.out.get 0 rfl).see3
  have p1 := (HSa.out.get 1 rfl).see3
  go_enter Tryz.func26, Tryz.ntmps26
  go_wp2_with fail
  refine HC.out.mono ?_
  intro e w2 hat2
  obtain ⟨k, s, y, m, c, rfl, hn2, hb2⟩ := hat2.form2
  have HS2 := hide (HSa.out.call hb2)
  clear p0 p1 hb2 hWa HC hat2 HSa
  cases hat : atN p d with
  | none =>
    rw [hat] at hn2
    have HW := hide (show withoutN p d = none by rw [withoutN, hat]; rfl)
    have p0 := (HS2.out.get 0 rfl).see3
    have p1 := (HS2.out.get 1 rfl).see3
    clear hat hn2
    go_wp2_with fail
    refine namedPost fun W5 hW5 => ?_
    have HS5 := hide (show St w W5 [ne w.heap.size k0 s0 y0 m0 c0, nz (w.heap.size + 1), ne w2.heap.size k s y m c] from St.onto hW5 ((HS2.out.st3 1 rfl _ _ _).var 24 _ (by simp)))
    rw [HW.out]
    exact ended_nb_ rfl rfl rfl (HS5.out.get 1 rfl) ⟨rfl, HS5.out.below⟩
  | some x =>
    have hnx := hn2 x hat
    have HAT := hide hat
    obtain ⟨W3, hW3⟩ : ∃ W3, w2.alloc (.cells #[.int .i64 k, .string s, .slice y m c] 24) = W3 := ⟨_, rfl⟩
    have HS3 := hide (show St w W3 [ne w.heap.size k0 s0 y0 m0 c0, nz (w.heap.size + 1), ne w2.heap.size k s y m c] from St.onto hW3.symm (HS2.out.var 24 _ (by simp)))
    have hnx3 : IsNd W3 (· < w.heap.size) x (.agg #[.int .i64 k, .string s, .slice y m c]) := IsNd.keep (fun b hb => ⟨hb, (HS3.out.below.block b hb).trans (HS2.out.below.block b hb).symm⟩) _ _ hnx
    have HX3 := hide hnx3
    have HBR := hide (refBracket_any hnx3)
    have hxc := at_count p d x hat
    have p0 := (HS3.out.get 0 rfl).see3
    have p1 := (HS3.out.get 1 rfl).see3
    have p2 := (HS3.out.get 2 rfl).see3
    clear hnx hnx3 hn2
    go_wp2_with fail
    refine HBR.out.mono ?_
    rintro e Wd ⟨rfl, hb4⟩
    have HS4 := hide (HS3.out.call hb4)
    have HB34 := hide hb4
    clear p0 p1 p2 hb4 HBR hW3 HS2
    cases hbr : x.br with
    | false =>
      have HW := hide (show withoutN p d = none by rw [withoutN, HAT.out, Option.bind_some, hbr]; rfl)
      have p1 := (HS4.out.get 1 rfl).see3
      clear hbr
      go_wp2_with fail
      rw [HW.out]
      exact ended_nb_ rfl rfl rfl ((HS4.out.st3 1 rfl _ _ _).get 1 rfl) ⟨rfl, (HS4.out.st3 1 rfl _ _ _).below⟩
    | true =>
      obtain ⟨mm, hmm⟩ := with_some (openN x) p d x hat
      have HO := hide hmm
      have HW := hide (show withoutN p d = some mm by rw [withoutN, HAT.out, Option.bind_some, hbr]; exact hmm)
      obtain ⟨hpos, ho⟩ := open_yes hbr
      have hx4 : IsNd Wd (· < w.heap.size) x (.agg #[.int .i64 k, .string s, .slice y m c]) := IsNd.keep (fun b hb => ⟨hb, HB34.out.block b (Nat.lt_of_lt_of_le hb HS3.out.below.size)⟩) _ _ HX3.out
      obtain ⟨hm, hml, hsl, -, -⟩ := hx4.out
      obtain ⟨b, o, cap2, k1, s1, y1, m1, e1, hv, hFb, g0, g1, g2, hc⟩ := hsl.kid hpos
      have hm1 : x.kids.length = 1 := by
        rw [br_of] at hbr
        simpa using (Bool.and_eq_true_iff.1 hbr).2
      rw [hm1] at hv hm
      subst hm
      cases hv
      simp only [Nat.zero_mul, Nat.add_zero] at g0 g1 g2
      have HK := hide (show IsNd Wd (· < w.heap.size) (openN x) (.agg #[.int .i64 k1, .string s1, .slice y1 m1 e1]) from ho ▸ hc)
      have lv0 : w.heap.size < Wd.heap.size := (HS4.out.get 0 rfl).lt
      have lv1 : w.heap.size + 1 < Wd.heap.size := (HS4.out.get 1 rfl).lt
      have lv2 : w2.heap.size < Wd.heap.size := (HS4.out.get 2 rfl).lt
      have hbW : b < Wd.heap.size := Nat.lt_of_lt_of_le hFb HS4.out.below.size
      have HG := hide (And.intro g0 (And.intro g1 g2))
      have HKS := hide (show ∀ W : World, Below Wd.heap.size Wd W → (W.cell? ⟨w.heap.size, 0, none⟩ = some (.int .i64 k0) ∧ W.cell? ⟨w.heap.size, 1, none⟩ = some (.string s0) ∧ W.cell? ⟨w.heap.size, 2, none⟩ = some (.slice y0 m0 c0) ∧ W.cell? ⟨w2.heap.size, 2, none⟩ = some (.slice (some ⟨b, o, none⟩) 1 c) ∧ W.cell? ⟨b, o, none⟩ = some (.int .i64 k1) ∧ W.cell? ⟨b, o + 1, none⟩ = some (.string s1) ∧ W.cell? ⟨b, o + 2, none⟩ = some (.slice y1 m1 e1)) from fun W h => ⟨(h.cell (p := ⟨w.heap.size, 0, none⟩) lv0).trans ((HS4.out.get 0 rfl).cell 0), (h.cell (p := ⟨w.heap.size, 1, none⟩) lv0).trans ((HS4.out.get 0 rfl).cell 1), (h.cell (p := ⟨w.heap.size, 2, none⟩) lv0).trans ((HS4.out.get 0 rfl).cell 2), (h.cell (p := ⟨w2.heap.size, 2, none⟩) lv2).trans ((HS4.out.get 2 rfl).cell 2), (h.cell (p := ⟨b, o, none⟩) hbW).trans HG.out.1, (h.cell (p := ⟨b, o + 1, none⟩) hbW).trans HG.out.2.1, (h.cell (p := ⟨b, o + 2, none⟩) hbW).trans HG.out.2.2⟩)
      have hoc := open_count hbr
      have LV1 := hide lv1
      clear hbr ho hm1 hsl g0 g1 g2 hc hx4 hmm hat hpos HX3 HB34 HS3
      go_wp2_with fail
      refine rgC (fun W => W.cell? ⟨w.heap.size, 0, none⟩ = some (.int .i64 k0) ∧ W.cell? ⟨w.heap.size, 1, none⟩ = some (.string s0) ∧ W.cell? ⟨w.heap.size, 2, none⟩ = some (.slice y0 m0 c0) ∧ W.cell? ⟨w2.heap.size, 2, none⟩ = some (.slice (some ⟨b, o, none⟩) 1 c) ∧ W.cell? ⟨b, o, none⟩ = some (.int .i64 k1) ∧ W.cell? ⟨b, o + 1, none⟩ = some (.string s1) ∧ W.cell? ⟨b, o + 2, none⟩ = some (.slice y1 m1 e1)) (HKS.out _ (bl_dr (Below.refl _ Wd))) fun W2 hW2 => ?_
      have hb12 : Below Wd.heap.size Wd W2 := hW2 ▸ bl_dr (Below.refl _ Wd)
      have HS2 := hide (St.onto hW2 HS4.out.dr)
      have hSn := HKS.out _ hb12
      have HFB := hide (fun (q : Nat) (hq : q < w.heap.size) => Nat.lt_of_lt_of_le hq HS2.out.below.size)
      have HK2 := hide (show IsNd W2 (· < w.heap.size) (openN x) (.agg #[.int .i64 k1, .string s1, .slice y1 m1 e1]) from IsNd.keep (fun q hq => ⟨hq, hb12.block q (Nat.lt_of_lt_of_le hq HS4.out.below.size)⟩) _ _ HK.out)
      have HKW := hide (show ∀ W : World, Below w.heap.size w W → IsNd W (· < w.heap.size) (openN x) (.agg #[.int .i64 k1, .string s1, .slice y1 m1 e1]) from fun W h => IsNd.keep (fun q hq => ⟨hq, (h.block q hq).trans (HS2.out.below.block q hq).symm⟩) _ _ HK2.out)
      clear hW2 HS4 HG HK HK2
      refine tC 0 hSn ?_
      refine tC 1 hSn ?_
      refine tC 2 hSn ?_
      refine tC 3 hSn ?_
      refine tC 4 hSn ?_
      refine tC 5 hSn ?_
      clear hSn
      refine rY2 6 10 (fun K hK => ?_) (fun K hK => ?_)
      ·
        go_simp
        refine (HO.out ▸ refWith_any (F := (· < w.heap.size)) p d (openN x) _ _ _ W2 (IsNd.keep (fun q hq => ⟨hq, HS2.out.below.block q hq⟩) _ _ HD.out) hcnt (HP.out.below HS2.out.below) (HKW.out _ HS2.out.below) (fun q hq => Nat.lt_of_lt_of_le hq HS2.out.below.size)).mono ?_
        intro e w3 hat3
        obtain ⟨k5, s5, y5, m5, c5, rfl, hn3, hb3⟩ := hat3.form2
        have HS3 := hide (HS2.out.call hb3)
        have hz32 := hb3.size
        have hb13 := hb12.trans (hb3.mono hb12.size)
        have hSn := HKS.out _ hb13
        clear hat3 HS2
        go_simp
        refine onK hK hSn ?_
        clear hK K
        refine tC 7 hSn ?_
        refine tC 8 hSn ?_
        refine tC 9 hSn ?_
        clear hSn
        refine rY 10 fun K hK => ?_
        go_simp
        refine onW hK (HKS.out _ (bl_al hb13 _)) fun W4 hW4 => ?_
        clear hK K
        have HS4 := onS hW4 HS3.out.va
        have hb14 : Below Wd.heap.size Wd W4 := hW4 ▸ bl_al hb13 _
        have hz4 : W4.heap.size = w3.heap.size + 1 := by rw [hW4]; simp
        have hk4 : ∀ q, q < w3.heap.size → W4.heap[q]? = w3.heap[q]? := fun q hq => hW4 ▸ Below.heap_alloc w3 _ q hq
        have hg3 := hb13.size
        clear hW4 HS3
        refine rY 11 fun K hK => ?_
        have p3 := (HS4.out.get 3 rfl).see3
        go_simp
        refine onW hK (HKS.out _ (bl_st3 hb14 hg3 _ _ _)) fun Wf hWf => ?_
        clear hK K p3
        have HSf := onS hWf (HS4.out.st3 3 rfl _ _ _)
        have HN := hide (show ∀ m, some mm = some m → IsNd Wf (fun q => (q < w.heap.size ∨ (Wd.heap.size ≤ q ∧ q < Wf.heap.size)) ∧ q ≠ w3.heap.size) m (.agg #[.int .i64 k5, .string s5, .slice y5 m5 c5]) from fun m hm => IsNd.keep (fun q hq => by
          have hq2 := (show q < w.heap.size ∨ (W2.heap.size ≤ q ∧ q < w3.heap.size) from hq)
          have hq4 : q < w3.heap.size := hq2.elim (fun h => Nat.lt_of_lt_of_le (HFB.out q h) hz32) (fun h => h.2)
          have hz2 := hb12.size
          refine ⟨⟨hq2.imp id fun h => ⟨by omega, by rw [hWf]; simp; omega⟩, by omega⟩, ?_⟩
          rw [hWf]
          exact (heap_st3 (by omega) _ _ _).trans (hk4 q hq4)) _ _ (hn3 m hm))
        have hbf : Below Wd.heap.size Wd Wf := hWf ▸ bl_st3 hb14 hg3 _ _ _
        have hgf := hg3
        have hSn := HKS.out Wf hbf
        clear hWf HS4 hn3 hb3 hk4
        refine tC 12 hSn ?_
        clear hSn
        refine wpAnyH_done (by kernel_rfl) ?_ _
        have q1 := (HSf.out.get 1 rfl).see3
        have q3 := (HSf.out.get 3 rfl).see3
        go_wp2_with fail
        rw [HW.out]
        exact ended_nb_ rfl rfl rfl ((HSf.out.st3 1 rfl _ _ _).get 1 rfl) ⟨⟨_, _, _, _, _, rfl, IsNd.keep (fun q hq => by
          have hqf : q < Wf.heap.size := hq.1.elim (fun h => Nat.lt_of_lt_of_le h HSf.out.below.size) (fun h => h.2)
          have hqr : q ≠ w.heap.size + 1 := by have := LV1.out; have := hq.1; omega
          exact ⟨by simpa using hqf, heap_st3 hqr _ _ _⟩) _ _ (HN.out mm rfl)⟩, (HSf.out.st3 1 rfl _ _ _).below⟩
      ·
        go_simp
        refine onW hK (HKS.out _ (bl_al hb12 _)) fun W3 hW3 => ?_
        clear hK K
        have HS3 := onS hW3 HS2.out.va
        have hb13 : Below Wd.heap.size Wd W3 := hW3 ▸ bl_al hb12 _
        have hz3 : W3.heap.size = W2.heap.size + 1 := by rw [hW3]; simp
        have hg2 := hb12.size
        clear hW3 HS2
        refine rY 6 fun K hK => ?_
        go_simp
        refine (HO.out ▸ refWith_any (F := (· < w.heap.size)) p d (openN x) _ _ _ W3 (IsNd.keep (fun q hq => ⟨hq, HS3.out.below.block q hq⟩) _ _ HD.out) hcnt (HP.out.below HS3.out.below) (HKW.out _ HS3.out.below) (fun q hq => Nat.lt_of_lt_of_le hq HS3.out.below.size)).mono ?_
        intro e w4 hat4
        obtain ⟨k5, s5, y5, m5, c5, rfl, hn4, hb4⟩ := hat4.form2
        have HS4 := hide (HS3.out.call hb4)
        have hb14 := hb13.trans (hb4.mono hb13.size)
        have hSn := HKS.out _ hb14
        clear hat4 HS3
        go_simp
        refine onK hK hSn ?_
        clear hK K
        refine tC 7 hSn ?_
        refine tC 8 hSn ?_
        refine tC 9 hSn ?_
        clear hSn
        refine rY 11 fun K hK => ?_
        have p3 := (HS4.out.get 3 rfl).see3
        go_simp
        refine onW hK (HKS.out _ (bl_st3 hb14 hg2 _ _ _)) fun Wf hWf => ?_
        clear hK K p3
        have HSf := onS hWf (HS4.out.st3 3 rfl _ _ _)
        have HN := hide (show ∀ m, some mm = some m → IsNd Wf (fun q => (q < w.heap.size ∨ (Wd.heap.size ≤ q ∧ q < Wf.heap.size)) ∧ q ≠ W2.heap.size) m (.agg #[.int .i64 k5, .string s5, .slice y5 m5 c5]) from fun m hm => IsNd.keep (fun q hq => by
          have hq2 := (show q < w.heap.size ∨ (W3.heap.size ≤ q ∧ q < w4.heap.size) from hq)
          have hq4 : q ≠ W2.heap.size := hq2.elim (fun h => Nat.ne_of_lt (HFB.out q h)) (fun h => by omega)
          refine ⟨⟨hq2.imp id fun h => ⟨by omega, by rw [hWf]; simp; omega⟩, hq4⟩, ?_⟩
          rw [hWf]
          exact heap_st3 hq4 _ _ _) _ _ (hn4 m hm))
        have hbf : Below Wd.heap.size Wd Wf := hWf ▸ bl_st3 hb14 hg2 _ _ _
        have hgf := hg2
        have hSn := HKS.out Wf hbf
        clear hWf HS4 hn4 hb4
        refine tC 12 hSn ?_
        clear hSn
        refine wpAnyH_done (by kernel_rfl) ?_ _
        have q1 := (HSf.out.get 1 rfl).see3
        have q3 := (HSf.out.get 3 rfl).see3
        go_wp2_with fail
        rw [HW.out]
        exact ended_nb_ rfl rfl rfl ((HSf.out.st3 1 rfl _ _ _).get 1 rfl) ⟨⟨_, _, _, _, _, rfl, IsNd.keep (fun q hq => by
          have hqf : q < Wf.heap.size := hq.1.elim (fun h => Nat.lt_of_lt_of_le h HSf.out.below.size) (fun h => h.2)
          have hqr : q ≠ w.heap.size + 1 := by have := LV1.out; have := hq.1; omega
          exact ⟨by simpa using hqf, heap_st3 hqr _ _ _⟩) _ _ (HN.out mm rfl)⟩, (HSf.out.st3 1 rfl _ _ _).below⟩
end Go.Proofs.YtacgmmpdichlmaaGreat
namespace Go.Proofs.YtacgmmpdichlmaaGreat
open Go.RowKit

theorem word_zero (s : ByteArray) (w : World) (hs : s.size ≤ 65536) (h0 : 0 < s.size) (hl : letterB s[0].toNat = false) : Calls Tryz.prog 81 #[.string s] w fun e w' => e = .returned (.int .i64 0) ∧ Below w.heap.size w w' :=
  (word_any s w hs).mono fun _ _ ⟨⟨n, h1, h2⟩, h3⟩ => by
    subst h3
    rcases Nat.eq_zero_or_pos n with rfl | hn
    · exact ⟨h1, Below.refl _ _⟩
    · obtain ⟨_, h⟩ := h2.2 hn
      rw [hl] at h; cases h
theorem plain_opn (s : ByteArray) (w : World) (hs : s.size ≤ 65536) (h0 : 0 < s.size) (hb : s[0] = 40 ∨ s[0] = 41) : Calls Tryz.prog 68 #[.string s] w fun e w' => e = .returned (.agg #[.int .i64 13, .string (s.extract 0 1)]) ∧ Below w.heap.size w w' := by
  obtain ⟨c, hc, hc1⟩ : ∃ c : Nat, s[0].toNat = c ∧ (c = 40 ∨ c = 41) := ⟨_, rfl, by rcases hb with h | h <;> rw [h] <;> simp⟩
  have HW := hide fun w => word_zero s w hs h0 (by rcases hb with h | h <;> rw [h] <;> rfl)
  have HU := hide fun w => number_none s w hs h0 (by rcases hb with h | h <;> rw [h] <;> rfl) (by rcases hb with h | h <;> rw [h] <;> decide)
  have HO := hide fun n (h : operP s n) => oper_bracket h h0 hb
  have HB := hide (show blankB c = false by rcases hc1 with h | h <;> rw [h] <;> rfl)
  have e35 : ((c : Int) == 35) = false := by simp; omega
  have e46 : ((c : Int) == 46) = false := by simp; omega
  have e36 : ((c : Int) == 36) = false := by simp; omega
  have e64 : ((c : Int) == 64) = false := by simp; omega
  have e34 : ((c : Int) == 34) = false := by simp; omega
  have h1s : (1 : Int) ≤ (s.size : Int) := by omega
  clear hb hc1
  go_enter Tryz.func68, Tryz.ntmps68
  go_wp2_with fail
  refine named fun W1 hW1 => ?_
  have HS1 := onS hW1 (St.nil w).va
  clear hW1
  refine (asB (blank_any c _)).mono ?_
  rintro e w2 ⟨rfl, hb2⟩
  rw [HB.out]
  have HS2 := hide (HS1.out.call hb2)
  clear hb2 HS1
  have p0 := rD HS2
  go_wp2_with fail
  refine (HW.out _).mono ?_
  rintro e w3 ⟨rfl, hb3⟩
  have HS3 := hide (HS2.out.call hb3)
  clear hb3 HS2
  clear p0
  have p0 := rD HS3
  go_wp2_with fail
  refine (asB (HU.out _)).mono ?_
  rintro e w4 ⟨rfl, hb4⟩
  have HS4 := hide (HS3.out.call hb4)
  clear hb4 HS3
  clear p0
  have p0 := rD HS4
  go_wp2_with fail
  refine (oper_any s _ hs).mono ?_
  rintro e w5 ⟨⟨n, rfl, hn⟩, hb5⟩
  have HS5 := hide (HS4.out.call hb5)
  clear hb5 HS4
  clear p0
  have p0 := rD HS5
  obtain rfl := HO.out n hn
  clear hn
  go_wp2_with fail
  refine namedPost fun W6 hW6 => ?_
  have HS6 := onS hW6 (HS5.out.st2 0 rfl _ _)
  clear hW6 HS5
  clear p0
  exact ended_tok rfl rfl (HS6.out.get 0 rfl) ⟨rfl, HS6.out.below⟩
theorem plain_num (s : ByteArray) (w : World) (hs : s.size ≤ 65536) (h0 : 0 < s.size) (hb : s[0] = 49) (h1 : ∀ h : 1 < s.size, s[1].toNat = 41) : Calls Tryz.prog 68 #[.string s] w fun e w' => e = .returned (.agg #[.int .i64 6, .string (s.extract 0 1)]) ∧ Below w.heap.size w w' := by
  obtain ⟨c, hc, hc1⟩ : ∃ c : Nat, s[0].toNat = c ∧ c = 49 := ⟨_, rfl, by rw [hb]; rfl⟩
  have HW := hide fun w => word_zero s w hs h0 (by rw [hb]; rfl)
  have HU := hide fun w => number_one s w hs h0 (by rw [hb]; rfl) h1
  have HB := hide (show blankB c = false by rw [hc1]; rfl)
  have e35 : ((c : Int) == 35) = false := by simp; omega
  have e46 : ((c : Int) == 46) = false := by simp; omega
  have e36 : ((c : Int) == 36) = false := by simp; omega
  have e64 : ((c : Int) == 64) = false := by simp; omega
  have h1s : (1 : Int) ≤ (s.size : Int) := by omega
  clear hb hc1 h1
  go_enter Tryz.func68, Tryz.ntmps68
  go_wp2_with fail
  refine named fun W1 hW1 => ?_
  have HS1 := onS hW1 (St.nil w).va
  clear hW1
  refine (asB (blank_any c _)).mono ?_
  rintro e w2 ⟨rfl, hb2⟩
  rw [HB.out]
  have HS2 := hide (HS1.out.call hb2)
  clear hb2 HS1
  have p0 := rD HS2
  go_wp2_with fail
  refine (HW.out _).mono ?_
  rintro e w3 ⟨rfl, hb3⟩
  have HS3 := hide (HS2.out.call hb3)
  clear hb3 HS2
  clear p0
  have p0 := rD HS3
  go_wp2_with fail
  refine (asB (HU.out _)).mono ?_
  rintro e w4 ⟨rfl, hb4⟩
  have HS4 := hide (HS3.out.call hb4)
  clear hb4 HS3
  clear p0
  have p0 := rD HS4
  go_wp2_with fail
  refine (asB (HU.out _)).mono ?_
  rintro e w5 ⟨rfl, hb5⟩
  have HS5 := hide (HS4.out.call hb5)
  clear hb5 HS4
  clear p0
  have p0 := rD HS5
  go_wp2_with fail
  refine namedPost fun W6 hW6 => ?_
  have HS6 := onS hW6 (HS5.out.st2 0 rfl _ _)
  clear hW6 HS5
  clear p0
  exact ended_tok rfl rfl (HS6.out.get 0 rfl) ⟨rfl, HS6.out.below⟩
end Go.Proofs.YtacgmmpdichlmaaGreat
namespace Go.Proofs.YtacgmmpdichlmaaGreat
open Go.RowKit

theorem infoTok : (Tryz.prog.info? 66).map (fun i => (i.zero, i.size, i.bytes)) = some (some (.agg #[.int .i64 0, .string ByteArray.empty]), 2, 24) := by kernel_rfl
theorem infoInt : (Tryz.prog.info? 3).map (fun i => (i.zero, i.size, i.bytes)) = some (some (.int .i64 0), 1, 8) := by kernel_rfl
theorem infoStr : (Tryz.prog.info? 9).map (fun i => (i.zero, i.size, i.bytes)) = some (some (.string ByteArray.empty), 1, 16) := by kernel_rfl

/-- A lexer. -/
def Lxv (s : ByteArray) (p : Nat) (tv ov : Value) (inn : Bool) (e : Int) : Value := .agg #[.string s, .int .i64 p, tv, ov, .bool inn, .int .i64 e]
def tokC (t : Tk) : List Value := [.int .i64 t.kind, .string t.text]
/-- Its tokens lie in a row that is its own. -/
def TRow (B : Nat) (w : World) (v : Value) (l : List Tk) : Prop := w.ownsRow B 66 2 v l.length (l.flatMap tokC)
/-- So do its numbers. -/
def ORow (B : Nat) (w : World) (v : Value) (n : Nat) : Prop := ∃ zs : List Int, zs.length = n ∧ w.ownsRow B 3 1 v n (zs.map fun z => .int .i64 z)

/-- What a step keeps: what lay below B; all but rows of tokens. -/
structure Kt (B : Nat) (w w' : World) : Prop where
  below : Below B w w'
  others : Lib.OthersKept 66 none w w'
section
variable {B : Nat} {w W W' : World} {g : Nat} {t : TypeId} {cs : Array Value}
theorem Kt.refl (B : Nat) (w : World) : Kt B w w := ⟨Below.refl _ _, Lib.OthersKept.refl _ _ _⟩
theorem Kt.trans (h : Kt B w W) (k : Kt B W W') : Kt B w W' := ⟨h.below.trans k.below, h.others.trans k.others⟩
theorem Kt.of_below (hb : Below w.heap.size w W) (hB : B ≤ w.heap.size) : Kt B w W := ⟨hb.mono hB, fun k _o hk _ _ => (hb.block k (Array.getElem?_eq_some_iff.1 hk).1).trans hk⟩
theorem Kt.blk (h : Kt B w W) (hb : Blk w g t cs) (ht : t ≠ 66) : Blk W g t cs := h.others g _ hb (by simp) (fun c fz e => by injection e with _ e2; exact ht e2)
theorem Kt.st (h : Kt B w W) (hg : w.heap.size ≤ g) (hB : B ≤ w.heap.size) (i : Nat) (v : Value) : Kt B w (W.setCell ⟨g, i, none⟩ v) :=
  ⟨h.below.setCell (Nat.le_trans hB hg) v, fun k o hk hb ho => by
    have hlt := (Array.getElem?_eq_some_iff.1 hk).1
    exact (Below.heap_setCell W ⟨g, i, none⟩ v k (fun e => by have : k = g := e; omega)).trans (h.others k o hk hb ho)⟩
theorem Kt.al (h : Kt B w W) (hB : B ≤ w.heap.size) (o : Obj) : Kt B w (W.alloc o) := ⟨h.below.alloc (Nat.le_trans hB h.below.size) o, h.others.alloc o⟩
/-- What append does to the row of tokens. -/
theorem Kt.grown {v : Value} {n : Nat} {xs : List Value} (h : Kt B w W) (hg : W.grownBy W' v.ownBlock) (hown : W.ownsRow B 66 2 v n xs) (hB : B ≤ w.heap.size) : Kt B w W' :=
  ⟨h.below.grown hg (Nat.le_trans hB h.below.size) (fun r hr => (hown.lt r hr).1), h.others.grown hg fun g e => by
    rcases hown.2 with ⟨rfl, _⟩ | ⟨g', cap, cur, rfl, _, hh, _⟩
    · simp [Value.ownBlock] at e
    · obtain rfl : g' = g := by simpa [Value.ownBlock] using e
      exact ⟨_, _, hh⟩⟩
theorem Kt.orow {v : Value} {n : Nat} (h : Kt B w W) (ho : ORow B w v n) : ORow B W v n := by
  obtain ⟨zs, hz, ho⟩ := ho
  refine ⟨zs, hz, ho.1, ?_⟩
  rcases ho.2 with hn | ⟨g, cap, cur, hv, hb, hg, rest⟩
  · exact .inl hn
  · exact .inr ⟨g, cap, cur, hv, hb, h.blk hg (by decide), rest⟩
theorem ORow.below {v : Value} {n : Nat} (ho : ORow B w v n) (hb : Below w.heap.size w W) : ORow B W v n := by
  obtain ⟨zs, hz, ho⟩ := ho
  exact ⟨zs, hz, own_below ho hb⟩
theorem TRow.below {v : Value} {l : List Tk} (ho : TRow B w v l) (hb : Below w.heap.size w W) : TRow B W v l := own_below ho hb
theorem ORow.form {v : Value} {n : Nat} (ho : ORow B w v n) : ∃ a c, v = .slice a n c := by
  obtain ⟨zs, hz, ho⟩ := ho
  exact own_form ho
theorem TRow.form {v : Value} {l : List Tk} (ho : TRow B w v l) : ∃ a c, v = .slice a l.length c := own_form ho
end

theorem Blk.see6 {w : World} {g : Nat} {t : TypeId} {a b c d e f : Value} (h : Blk w g t #[a, b, c, d, e, f]) : w.cell? ⟨g, 0, none⟩ = some a ∧ w.cell? ⟨g, 1, none⟩ = some b ∧ w.cell? ⟨g, 2, none⟩ = some c ∧ w.cell? ⟨g, 3, none⟩ = some d ∧ w.cell? ⟨g, 4, none⟩ = some e ∧ w.cell? ⟨g, 5, none⟩ = some f ∧
    w.frozen? ⟨g, 0, none⟩ = false ∧ w.frozen? ⟨g, 1, none⟩ = false ∧ w.frozen? ⟨g, 2, none⟩ = false ∧ w.frozen? ⟨g, 3, none⟩ = false ∧ w.frozen? ⟨g, 4, none⟩ = false ∧ w.frozen? ⟨g, 5, none⟩ = false ∧ g < w.heap.size :=
  ⟨h.cell 0, h.cell 1, h.cell 2, h.cell 3, h.cell 4, h.cell 5, h.frozen 0, h.frozen 1, h.frozen 2, h.frozen 3, h.frozen 4, h.frozen 5, h.lt⟩
theorem Blk.put6 {w : World} {g : Nat} {t : TypeId} {a b c d e f : Value} (h : Blk w g t #[a, b, c, d, e, f]) (a' b' c' d' e' f' : Value) :
    Blk ((((((w.setCell ⟨g, 0, none⟩ a').setCell ⟨g, 1, none⟩ b').setCell ⟨g, 2, none⟩ c').setCell ⟨g, 3, none⟩ d').setCell ⟨g, 4, none⟩ e').setCell ⟨g, 5, none⟩ f') g t #[a', b', c', d', e', f'] :=
  (((((h.set_ 0 a').set_ 1 b').set_ 2 c').set_ 3 d').set_ 4 e').set_ 5 f'
theorem Blk.farN {w : World} {g g' : Nat} {t : TypeId} {cs : Array Value} (h : Blk w g t cs) (hne : g ≠ g') (i : Nat) (v : Value) : Blk (w.setCell ⟨g', i, none⟩ v) g t cs := h.far hne v
theorem St.cells6 {w W : World} {V : List (Nat × TypeId × Array Value)} (h : St w W V) (i : Nat) {g : Nat} {t : TypeId} {a b c d e f : Value} (hi : V[i]? = some (g, t, #[a, b, c, d, e, f])) :
    W.cell? ⟨g, 0, none⟩ = some a ∧ W.cell? ⟨g, 1, none⟩ = some b ∧ W.cell? ⟨g, 2, none⟩ = some c ∧ W.cell? ⟨g, 3, none⟩ = some d ∧ W.cell? ⟨g, 4, none⟩ = some e ∧ W.cell? ⟨g, 5, none⟩ = some f :=
  ⟨(h.get i hi).cell 0, (h.get i hi).cell 1, (h.get i hi).cell 2, (h.get i hi).cell 3, (h.get i hi).cell 4, (h.get i hi).cell 5⟩
theorem St.st6 {w W : World} {V : List (Nat × TypeId × Array Value)} (h : St w W V) (i : Nat) {g : Nat} {t : TypeId} {a b c d e f : Value} (hi : V[i]? = some (g, t, #[a, b, c, d, e, f])) (a' b' c' d' e' f' : Value) :
    St w ((((((W.setCell ⟨g, 0, none⟩ a').setCell ⟨g, 1, none⟩ b').setCell ⟨g, 2, none⟩ c').setCell ⟨g, 3, none⟩ d').setCell ⟨g, 4, none⟩ e').setCell ⟨g, 5, none⟩ f') (V.set i (g, t, #[a', b', c', d', e', f'])) := by
  have hlt := (List.getElem?_eq_some_iff.1 hi).1
  have h1 := h.st i hi 0 a'
  have h2 := h1.st i (List.getElem?_set_self hlt) 1 b'
  have h3 := h2.st i (List.getElem?_set_self (by rw [List.length_set]; exact hlt)) 2 c'
  rw [List.set_set] at h2
  rw [List.set_set, List.set_set] at h3
  have h4 := h3.st i (List.getElem?_set_self hlt) 3 d'
  rw [List.set_set] at h4
  have h5 := h4.st i (List.getElem?_set_self hlt) 4 e'
  rw [List.set_set] at h5
  have h6 := h5.st i (List.getElem?_set_self hlt) 5 f'
  rw [List.set_set] at h6
  exact h6
theorem St.kt {w W W' : World} {V : List (Nat × TypeId × Array Value)} (h : St w W V) (hk : Kt w.heap.size W W') (ht : ∀ x ∈ V, x.2.1 ≠ 66) : St w W' V :=
  ⟨h.below.trans hk.below, fun x hx => ⟨(h.vars x hx).1, hk.blk (h.vars x hx).2 (ht x hx)⟩, h.nodup⟩
theorem ended_L {fn : Func} {p : Tmp} {tmps : Array Value} {W : World} {R : Ending → World → Prop} {g : Nat} {c0 c1 c2 c3 c4 c5 : Value} (hr : fn.results = #[.cell p 81]) (hp : tmps.getD p undef = .pointer (some ⟨g, 0, none⟩)) (hb : Blk W g 81 #[c0, c1, c2, c3, c4, c5])
    (hd : R (.returned (.agg #[c0, c1, c2, c3, c4, c5])) W) : bodyPost Tryz.prog fn R .ret { tmps := tmps, defers := [] } W :=
  bodyPost_ret (results_cell_row hr tmps W g 81 _ (0, 0) _ hp hb Tryz.underlying81 rfl (by kernel_rfl)) rfl hd

theorem _root_.Go.World.ownsRow.setOther {w : World} {base n size : Nat} {e : TypeId} {v : Value} {xs : List Value} (h : w.ownsRow base e size v n xs) {g : Nat} (hne : v.ownBlock ≠ some g) (i : Nat) (u : Value) : (w.setCell ⟨g, i, none⟩ u).ownsRow base e size v n xs := ownsRow_setCell_other (a := ⟨g, i, none⟩) h hne u
theorem flatMap_snoc (l : List Tk) (t : Tk) : (l ++ [t]).flatMap tokC = l.flatMap tokC ++ [.int .i64 t.kind, .string t.text] := by simp [tokC]
set_option maxRecDepth 100000 in
set_option maxHeartbeats 2000000 in
/-- A token more. -/
theorem put_any {B p : Nat} {l : List Tk} {t : Tk} {s : ByteArray} {tv ov : Value} {inn : Bool} {e : Int} {w : World} (hT : TRow B w tv l) (hB : B ≤ w.heap.size) (hl : l.length ≤ 70000) (hp : p ≤ 65536) (ht : t.text.size ≤ 65536) (hov : ∃ a n c, ov = .slice a n c) :
    Calls Tryz.prog 67 #[Lxv s p tv ov inn e, .agg #[.int .i64 t.kind, .string t.text]] w fun r w' => (∃ tv', r = .returned (Lxv s (p + t.text.size : Nat) tv' ov inn e) ∧ TRow B w' tv' (l ++ [t])) ∧ Kt B w w' := by
  obtain ⟨a, c, rfl⟩ := hT.form
  obtain ⟨oa, on, oc, rfl⟩ := hov
  unfold Lxv
  go_enter Tryz.func67, Tryz.ntmps67
  go_wp2_with (refine stopAt 5 ?_)
  refine namedStop fun W1 hW1 => ?_
  have HS1 := hide (show St w W1 [(w.heap.size, 81, #[.string s, .int .i64 p, .slice a l.length c, .slice oa on oc, .bool inn, .int .i64 e]), (w.heap.size + 1, 66, #[.int .i64 t.kind, .string t.text]), (w.heap.size + 1 + 1, 81, #[.string ⟨#[]⟩, .int .i64 0, .slice none 0 0, .slice none 0 0, .bool false, .int .i64 0])] from St.onto hW1 ((((St.nil w).var 81 _ (by simp)).var 66 _ (by simp)).var 81 _ (by simp)))
  clear hW1
  have hT1 := hT.below HS1.out.below
  have hz1 := HS1.out.below.size
  have hb := Blk.new W1 66 #[.int .i64 t.kind, .string t.text]
  obtain ⟨v', w', hr, hown, hg, hblk⟩ := app_run (ty := 58) Tryz.underlying58 infoTok rfl (by decide) (by decide) (hT1.alloc (.cells #[.int .i64 t.kind, .string t.text] 66)) W1.heap.size 0 1 1 [.int .i64 t.kind, .string t.text] rfl (fun j u hu => by rw [Nat.zero_add, hb.cell j]; simpa using hu) (by simp [Value.oneCell']) (by omega) (by omega) (by simp; omega)
  obtain ⟨va, vc, rfl⟩ := own_form hown
  have hK : Kt B w w' := ((Kt.of_below HS1.out.below hB).al hB _).grown hg (hT1.alloc _) hB
  have hlt : ∀ g, (Value.slice a l.length c).ownBlock = some g → g < w.heap.size := fun g h => (hT.lt g h).2
  have hbx : ∀ {g t cs}, Blk W1 g t cs → w.heap.size ≤ g → Blk w' g t cs := fun h hge => (h.alloc _).grown hg (fun e => by have := hlt _ e.symm; omega)
  have HX := hide (hbx (HS1.out.get 0 rfl) (Nat.le_refl _))
  have HT := hide (hbx (HS1.out.get 1 rfl) (by omega))
  have HR := hide (hbx (HS1.out.get 2 rfl) (by omega))
  have HK := hide hK
  have HO := hide hown
  have HN := hide (show ∀ g, w.heap.size ≤ g → g < W1.heap.size → (Value.slice va (l.length + 1) vc).ownBlock ≠ some g from fun g h1 h2 e => by
    rcases hblk g e with h | h
    · have := hlt g h; omega
    · simp at h; omega)
  have p0 := (HS1.out.get 0 rfl).see6
  have p1 := (HS1.out.get 1 rfl).see2
  have L0 := (HS1.out.get 0 rfl).lt
  have L2 := (HS1.out.get 2 rfl).lt
  have q0 := HX.out.see6
  have q1 := HT.out.see2
  have q2 := HR.out.see6
  clear hT hT1 hb hown hg hblk hK hlt hbx hz1
  go_wp2_with (at_builtin; refine wpList_app rfl _ _ (by rfl) (by rfl) (by rfl) (by rfl) hr ?_)
  clear hr p0 p1 q0 q1 q2 HS1
  refine ended_L rfl rfl (Blk.put6 ((HR.out.farN (g' := w.heap.size) (by omega) 2 _).farN (g' := w.heap.size) (by omega) 1 _) _ _ _ _ _ _) ⟨⟨.slice va (l.length + 1) vc, by rw [Int.natCast_add], ?_⟩, ?_⟩
  · rw [TRow, List.length_append, flatMap_snoc]
    have n0 := HN.out w.heap.size (by omega) L0
    have n2 := HN.out (w.heap.size + 1 + 1) (by omega) L2
    exact ((((((((HO.out.setOther n0 2 _).setOther n0 1 _).setOther n2 0 _).setOther n2 1 _).setOther n2 2 _).setOther n2 3 _).setOther n2 4 _).setOther n2 5 _)
  · exact (((((((HK.out.st (by omega) hB 2 _).st (by omega) hB 1 _).st (by omega) hB 0 _).st (by omega) hB 1 _).st (by omega) hB 2 _).st (by omega) hB 3 _).st (by omega) hB 4 _).st (by omega) hB 5 _
end Go.Proofs.YtacgmmpdichlmaaGreat
