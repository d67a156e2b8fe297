/-
  The walk of edit.each: what it gives, one behind the other.
  Its conditions: the slice reads as at most a thousand edits of small numbers.
-/
import Derived.Test.YtfncmabjmlmcfaaRefBack
import Derived.RangeFuncNested
import Derived.RangeFuncBound
import Derived.RangeFuncCalls
import Derived.RangeFuncLeaves
import Derived.Shelf.Abstract
import Derived.Shelf.RegionOpen
import Derived.OwnWalkIn
import Derived.TacticsInMore
import Derived.LoopNIn
import Derived.LoopIn
namespace Go.Proofs.Ytfncmabjmlmcfaa
open Go.RowKit Go.Shelf
attribute [local go_sem] Oper.semAt_some

/-- Edits, and where each begins when those ahead are made; m: what those ahead have added. -/
def fromL : Int → List Ed → List (Int × Ed)
  | _, [] => []
  | m, e :: r => (e.lo + m, e) :: fromL (m + moreE e) r
/-- What a round keeps: what lay below n, and blocks of one edit. -/
structure Kp3 (n : Nat) (A B : World) : Prop where
  below : Below n A B
  one : ∀ (k : Nat) (cs : Array Value), A.heap[k]? = some (.cells cs 36 (0, 0)) → cs.size = 3 → B.heap[k]? = A.heap[k]?
theorem Kp3.trans {n : Nat} {A B C : World} (h : Kp3 n A B) (k : Kp3 n B C) : Kp3 n A C :=
  ⟨h.below.trans k.below, fun i cs hi hs => (k.one i cs ((h.one i cs hi hs).trans hi) hs).trans (h.one i cs hi hs)⟩
theorem Kp3.put {n : Nat} {w : World} (hm : n ≤ w.heap.size) (W : World) (l : Nat) (o o' : Obj) (hl : w.heap.size ≤ l) (ho : W.heap[l]? = some o) (hc : o.isCells = false) (hw : o.isWalk = false) : Kp3 n W (W.putObj l o') :=
  ⟨belowK_b hm W l o o' hl ho hc hw, fun k cs hk _ => World.putObj_heap_other (by rintro rfl; rw [ho] at hk; cases hk; cases hc)⟩

/-- What a round is handed: where the edit begins then, and the edit. -/
structure SE (N : Int) where
  f : Int
  e : Ed
  lo : -2000000000 ≤ f
  hi : f ≤ 2000000000
  ok : e.small
  ub : e.hi ≤ N
def SE.pair {N : Int} (x : SE N) : Int × Ed := (x.f, x.e)
def edV (e : Ed) : Value := .agg #[.int .i64 e.lo, .int .i64 e.hi, .string e.text]
def encE {N : Int} (x : SE N) : Array Value := #[.int .i64 x.f, edV x.e]

theorem each_any (a : Option Addr) (m c : Nat) (w : World) : Calls Try.prog 28 #[.slice a m c] w fun e w' => e = .returned (.func (.func 32) #[] #[.pointer (some ⟨w.heap.size, 0, none⟩)]) ∧ w' = w.alloc (.cells #[.slice a m c] 26) := by
  go_enter Try.func28, Try.ntmps28
  go_wp2_with fail
  go_ret
  exact ⟨rfl, rfl⟩

theorem fromL_cons {m : Int} {l : List Ed} {k : Nat} (h : k < l.length) : fromL m (l.drop k) = (l[k].lo + m, l[k]) :: fromL (m + moreE l[k]) (l.drop (k + 1)) := by
  rw [List.drop_eq_getElem_cons h]; rfl
theorem fromL_len : ∀ (m : Int) (l : List Ed), (fromL m l).length = l.length
  | _, [] => rfl
  | m, e :: r => by simp [fromL, fromL_len _ r]

set_option maxRecDepth 100000 in
set_option maxHeartbeats 1000000 in
theorem each1_in (l0 Bn n₀ : Nat) (a : Option Addr) (c : Nat) (l : List Ed) (N : Int) (hN : ∀ e ∈ l, e.hi ≤ N) (J Jx : List (SE N) → World → Prop) (hl : l.length ≤ 1000) (hs : ∀ e ∈ l, e.small)
    (W : World) (hJ : AbidesFrom W.heap.size J) 
    (hY : ∀ pre x W1, J pre W1 → pre.length < l.length → YieldAt Fence.wide (3 - 1) Try.prog l0 (encE x) W1 fun e W' =>
      (e = .returned (.bool true) ∧ J (pre ++ [x]) W' ∧ Kp3 n₀ W1 W') ∨ (e = .returned (.bool false) ∧ Jx (pre ++ [x]) W'))
    (hBn : W.cell? ⟨Bn, 0, none⟩ = some (.slice a l.length c)) (hI : IsEds W (· < n₀) a l.length l) (hn : n₀ ≤ W.heap.size) (h0 : J [] W) :
    CallsIn Fence.wide 3 Try.prog 32 #[.func (.yield l0) #[] #[], .pointer (some ⟨Bn, 0, none⟩)] W fun e W' => (∃ v, e = .returned v) ∧
      ((∃ ys, ys.map SE.pair = fromL 0 l ∧ J ys W') ∨ (∃ pre, pre.map SE.pair <+: fromL 0 l ∧ Jx pre W')) := by
  refine callsIn_of_wp Try.func32 rfl trivial ?_ rfl
  simp only [Try.ntmps32, List.size_toArray, List.length_cons, List.length_nil, Nat.reduceAdd, Nat.reduceSub, Array.replicate_succ, Array.replicate_zero, List.push_toArray, List.append_toArray, List.nil_append, List.cons_append]
  gi_wp2_with fail
  gi_loopw [3, 8] (fun sm i wr => ∃ (k : Nat) (q : Int) (pre : List (SE N)), k ≤ l.length ∧ i = .int .i64 k ∧ sm = .int .i64 q ∧ fromL 0 l = pre.map SE.pair ++ fromL q (l.drop k) ∧ pre.length = k ∧ IsEds wr (· < n₀) a l.length l ∧ n₀ ≤ wr.heap.size ∧ W.heap.size ≤ wr.heap.size ∧ J pre wr ∧ -(1000000 * (k : Int)) ≤ q ∧ q ≤ 1000000 * (k : Int))
    (fun _ i _ => l.length - (intOf i).toNat)
  case atStart => exact ⟨0, 0, [], Nat.zero_le _, rfl, rfl, rfl, rfl, hI, hn, Nat.le_refl _, h0, by omega, by omega⟩
  case round =>
    obtain ⟨k, q, pre, hk, rfl, rfl, hgo, hpl, hIr, hnr, hWr, hJr, hq0, hq1⟩ := hrel
    have HG := hide hgo
    have HP := hide hpl
    clear hgo hpl
    by_cases hlt : k < l.length
    · obtain ⟨b, o, rfl, hF, ⟨p0, p1, p2⟩, _⟩ := hIr.get hlt
      have hsm := hs _ (List.getElem_mem hlt)
      have hub := hN _ (List.getElem_mem hlt)
      have hmo := moreE_le hsm
      have HM := hide (more_any l[k] · hsm)
      have HS := hide (fromL_cons (m := q) hlt)
      obtain ⟨s0, s1, s2, s3⟩ := id hsm
      obtain ⟨x, hx⟩ : ∃ x, x = l[k] := ⟨_, rfl⟩
      rw [← hx] at p0 p1 p2 HM HS s0 s1 s2 s3 hmo hsm hub
      clear hx
      have hJ2 : J pre (wr.alloc (.cells #[.int .i64 x.lo, .int .i64 x.hi, .string x.text] 36)) := hJ pre wr _ none hJr (World.grownBy_alloc _ _ _) (by simp)
      obtain ⟨y, hy1, hy2⟩ : ∃ y : SE N, y.f = x.lo + q ∧ y.e = x := ⟨⟨x.lo + q, x, by omega, by omega, hsm, hub⟩, rfl, rfl⟩
      obtain ⟨fn, tmps, assign, body, hy, hR⟩ := hY pre y _ hJ2 (by have := HP.out; omega)
      simp only [encE, edV, hy1, hy2] at hy
      have HY := hide (show y.pair = (x.lo + q, x) by rw [SE.pair, hy1, hy2])
      clear hy1 hy2
      gi_wp2_with fail
      refine hR.mono ?_
      rintro e W3 (⟨rfl, hJ3, hk3⟩ | ⟨rfl, hJx3⟩)
      · have hz := hnr
        have hz3 := hk3.below.size
        rw [World.size_alloc] at hz3
        have hblk : Blk W3 wr.heap.size 36 #[.int .i64 x.lo, .int .i64 x.hi, .string x.text] :=
          (hk3.one wr.heap.size #[.int .i64 x.lo, .int .i64 x.hi, .string x.text] (Blk.new wr 36 _) rfl).trans (Blk.new wr 36 _)
        obtain ⟨c0, c1, c2, f0, f1, f2⟩ := hblk.three
        have hI3 : IsEds W3 (· < n₀) (some ⟨b, o, none⟩) l.length l := (hIr.keep fun i hi => ⟨hi, Below.heap_alloc wr _ i (by omega)⟩).below hk3.below
        clear p0 p1 p2 hIr hR hy hk3
        gi_wp2_with (refine ⟨trivial, ?_⟩; gi_at_call 29; refine (callsIn_wide.2 (HM.out _)).mono ?_; rintro e W4 ⟨rfl, hb4⟩)
        have hz4 := hb4.size
        have hb4' : Below W.heap.size W3 W4 := hb4.mono (by omega)
        have hJ4 : J (pre ++ [y]) W4 := hJ _ W3 W4 none hJ3 ⟨hb4.os, hb4.tape, hb4.output, hb4.size, fun i hi _ => hb4.block i hi⟩ (by simp)
        have hI4 := hI3.keep (w' := W4) (F' := (· < n₀)) (fun i hi => ⟨hi, hb4.block i (by omega)⟩)
        clear hb4 hb4' hI3 hJ3 c0 c1 c2 f0 f1 f2
        gi_wp2_with fail
        go_roundw
        case rel =>
          exact ⟨k + 1, q + moreE x, pre ++ [y], by omega, by go_num, rfl, by rw [HG.out, HS.out]; simp [HY.out], by simp [HP.out], hI4, by omega, by omega, hJ4, by omega, by omega⟩
        case measure => simp [intOf]; omega
      · gi_wp2_with fail
        refine bodyPost_ret (results_none rfl _ _ _) rfl ?_
        exact ⟨⟨_, rfl⟩, .inr ⟨pre ++ [y], by rw [HG.out, HS.out]; exact ⟨fromL (q + moreE x) (l.drop (k + 1)), by simp [HY.out]⟩, hJx3⟩⟩
    · gi_wp2_with fail
      go_end0
      exact ⟨⟨_, rfl⟩, .inl ⟨pre, by rw [HG.out, List.drop_eq_nil_of_le (by omega)]; simp [fromL], hJr⟩⟩

theorem each_stops (N : Int) (Bn n₀ : Nat) (a : Option Addr) (c : Nat) (l : List Ed) (w : World) (hl : l.length ≤ 1000) (hs : ∀ e ∈ l, e.small) (hN : ∀ e ∈ l, e.hi ≤ N)
    (hBl : Bn < w.heap.size) (hBn : w.cell? ⟨Bn, 0, none⟩ = some (.slice a l.length c)) (hI : IsEds w (· < n₀) a l.length l) (hn : n₀ ≤ w.heap.size) :
    SeqStopsK Fence.wide 3 Try.prog 32 #[.pointer (some ⟨Bn, 0, none⟩)] (encE (N := N)) (Kp3 n₀) (fun ys => ys.map SE.pair = fromL 0 l) (fun pre => pre.map SE.pair <+: fromL 0 l) l.length w := fun l0 J Jx W hW hJ _ hY h0 =>
  each1_in l0 Bn n₀ a c l N hN J Jx hl hs W hJ hY ((hW.cell (p := ⟨Bn, 0, none⟩) hBl).trans hBn) (hI.below (hW.mono hn)) (Nat.le_trans hn hW.size) h0
end Go.Proofs.Ytfncmabjmlmcfaa
