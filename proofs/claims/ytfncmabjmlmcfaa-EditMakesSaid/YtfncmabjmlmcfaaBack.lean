/-
  The walk of edit.Back: edits that undo some.
  Its conditions: the slice reads as edits; where they may be made: the text and their texts have at most 1000000 bytes each.
-/
import Derived.Test.YtfncmabjmlmcfaaShift
import Derived.Test.YtfncmabjmlmcfaaRight
import Derived.Test.YtfncmabjmlmcfaaFence
import Derived.RangeFuncNested
import Derived.RangeFuncBound
import Derived.RangeFuncCalls
import Derived.RangeFuncLeaves
import Derived.Shelf.Abstract
import Derived.Shelf.RegionOpen
import Derived.OwnWalkIn
import Derived.TacticsInMore
import Derived.LoopNIn
import Derived.LoopIn
namespace Go.Proofs.Ytfncmabjmlmcfaa
open Go.RowKit Go.Shelf
attribute [local go_sem] Oper.semAt_some



/-- append of one element onto a row of the call's own: besides, no block of one element turns. -/
theorem run_append_one {P : Program} (w : World) (base : Nat) (t ty e : TypeId) (i : TypeInfo) (z : Value) (size bytes : Nat) (ht : P.underlying t = some (.slice e)) (hi : P.info? e = some i) (hz : i.zero = some z)
    (hsize : i.size = size) (hby : i.bytes = bytes) (hzs : z.cells.size = size) (hsz : 0 < size)
    (v : Value) (n : Nat) (xs : List Value) (hown : w.ownsRow base e size v n xs) (hn : v = .slice none 0 0 ∨ 1 ≤ n)
    (a : Addr) (c : Nat) (news : List Value) (hl : news.length = 1 * size) (hnews : ∀ j u, news[j]? = some u → w.cell? (a.add j) = some u) (h1 : ∀ u ∈ news, u.oneCell' = true)
    (h63 : n + 1 ≤ maxLen) (hbytes : (n + 1) * bytes ≤ 140737488355328) (hbase : base ≤ w.heap.size) :
    ∃ g cap w', (Builtin.append_ #[t, t] ty #[v, .slice (some a) 1 c]).run P w = .ok (.slice (some ⟨g, 0, none⟩) (n + 1) cap) w' ∧ w'.ownsRow base e size (.slice (some ⟨g, 0, none⟩) (n + 1) cap) (n + 1) (xs ++ news) ∧ w.grownBy w' v.ownBlock ∧
      ∀ (k : Nat) (cs : Array Value), w.heap[k]? = some (.cells cs e (0, 0)) → cs.size = size → w'.heap[k]? = w.heap[k]? := by
  obtain ⟨v', w', hr, ho, hg, hnil⟩ := run_append_own (P := P) w base t ty e i z size bytes ht hi hz hsize hby hzs hsz v n xs hown a 1 c news hl hnews h1 h63 hbytes hbase
  have hv' : ∃ g cap, v' = .slice (some ⟨g, 0, none⟩) (n + 1) cap := by
    rcases ho.2 with ⟨rfl, h0⟩ | ⟨g, cap, cur, rfl, _⟩
    · omega
    · exact ⟨g, cap, rfl⟩
  obtain ⟨g, cap, rfl⟩ := hv'
  refine ⟨g, cap, w', hr, ho, hg, fun k cs hk hs => ?_⟩
  have hlt : k < w.heap.size := (Array.getElem?_eq_some_iff.1 hk).1
  rcases hown.2 with ⟨rfl, _⟩ | ⟨g0, cap0, cur0, rfl, hb0, hg0, hnc, hcm, hcs, htake⟩
  · exact hg.block k hlt (by simp [Value.ownBlock])
  · by_cases hkg : k = g0
    · subst hkg
      rw [hg0] at hk
      have hcc : cur0 = cs := by injection hk with hk; injection hk
      subst hcc
      have hc1 : cap0 = 1 := by
        rw [hs] at hcs
        rcases Nat.lt_or_ge cap0 2 with h2 | h2
        · rcases Nat.lt_or_ge cap0 1 with h3 | h3
          · have : cap0 = 0 := by omega
            subst this; simp at hcs; omega
          · omega
        · have := Nat.mul_le_mul_right size h2
          omega
      have hn1 : n = 1 := by
        rcases hn with hn | hn
        · cases hn
        · omega
      subst hc1 hn1
      have holds : ∀ j u, xs[j]? = some u → w.cell? ((⟨k, 0, none⟩ : Addr).add j) = some u := hown.cells (g := k) rfl
      subst hsize hby
      have hr2 := run_append_grow (P := P) w t ty e i z ht hi hz ⟨k, 0, none⟩ 1 1 xs hown.1 holds a 1 c news hl hnews (by omega) (by omega) (growslice_fits (by omega) hbytes)
      rw [hr] at hr2
      injection hr2 with _ hw
      rw [hw]
      exact Below.heap_alloc w.drew _ k hlt
    · exact hg.block k hlt (by simp [Value.ownBlock]; exact hkg)

theorem step_append_one {P : Program} (w : World) {ops : Array Oper} {o : Oper} {a : Act} {K : Act → World → Prop} {Q : Exit → Act → World → Prop} {E : Prop} (hgd : o.guard = none) (s x : Operand) (t : TypeId)
    (ho : o.op = .call { callee := .builtin .append, args := #[s, x], argTypes := #[t, t] })
    (base : Nat) (e : TypeId) (i : TypeInfo) (z : Value) (size bytes : Nat) (ht : P.underlying t = some (.slice e)) (hi : P.info? e = some i) (hz : i.zero = some z)
    (hsize : i.size = size) (hby : i.bytes = bytes) (hzs : z.cells.size = size) (hsz : 0 < size)
    (v : Value) (n : Nat) (xs : List Value) (hs : a.eval s = v) (hown : w.ownsRow base e size v n xs) (hn : v = .slice none 0 0 ∨ 1 ≤ n)
    (ad : Addr) (c : Nat) (news : List Value) (hx : a.eval x = .slice (some ad) 1 c) (hl : news.length = 1 * size) (hnews : ∀ j u, news[j]? = some u → w.cell? (ad.add j) = some u) (h1 : ∀ u ∈ news, u.oneCell' = true)
    (h63 : n + 1 ≤ maxLen) (hbytes : (n + 1) * bytes ≤ 140737488355328) (hbase : base ≤ w.heap.size)
    (h : ∀ g cap w', w'.ownsRow base e size (.slice (some ⟨g, 0, none⟩) (n + 1) cap) (n + 1) (xs ++ news) → w.grownBy w' v.ownBlock →
      (∀ (k : Nat) (cs : Array Value), w.heap[k]? = some (.cells cs e (0, 0)) → cs.size = size → w'.heap[k]? = w.heap[k]?) → K (a.put o.dst (.slice (some ⟨g, 0, none⟩) (n + 1) cap)) w') :
    if Region.wanted o (yielded ops a.tmps) = true then Oper.wp P o a w K Q else E := by
  have hw : Region.wanted o (yielded ops a.tmps) = true := by simp [Region.wanted, hgd]
  rw [if_pos hw]
  obtain ⟨g, cap, w', hr, h2, h3, h4⟩ := run_append_one (P := P) w base t o.type e i z size bytes ht hi hz hsize hby hzs hsz v n xs hown hn ad c news hl hnews h1 h63 hbytes hbase
  unfold Oper.wp execOp
  simp only [ho, resolve, invoke, builtin, Sem.run_bind, Sem.run_pure, Result.andThen_ok, List.map_toArray, List.map_cons, List.map_nil, hs, hx, hr]
  exact h g cap w' h2 h3 h4

/-- What the rounds have made. -/
def backL (s : ByteArray) {N : Int} (pre : List (SE N)) : List Ed := pre.map fun x => ⟨x.f, x.f + x.e.text.size, s.extract x.e.lo.toNat x.e.hi.toNat⟩

theorem backL_snoc {N : Int} (s : ByteArray) (pre : List (SE N)) (x : SE N) : backL s (pre ++ [x]) = backL s pre ++ [⟨x.f, x.f + x.e.text.size, s.extract x.e.lo.toNat x.e.hi.toNat⟩] := by simp [backL]
theorem backGo_is (s : ByteArray) : ∀ (l : List Ed) (m : Int), backGo s m l = (fromL m l).map fun x => ⟨x.1, x.1 + x.2.text.size, s.extract x.2.lo.toNat x.2.hi.toNat⟩
  | [], _ => rfl
  | e :: r, m => by simp only [backGo, fromL, List.map_cons, backGo_is s r]
theorem backL_fits {s : ByteArray} {pre : List (SE s.size)} : ∀ e ∈ backL s pre, e.fits := by
  intro e he
  obtain ⟨x, _, rfl⟩ := List.mem_map.1 he
  have h0 := x.lo
  have h1 := x.hi
  obtain ⟨s0, s1, s2, s3⟩ := x.ok
  refine ⟨by simp only []; omega, by simp only []; omega, by simp only []; omega, by simp only []; omega, ?_⟩
  simp only [ByteArray.size_extract, maxLen]; omega
theorem kp3_one {W w2 : World} {o : Obj} {b : Nat} {u v : Value} (hv : Boxed w2 b 26 v) (hone : ∀ (k : Nat) (cs : Array Value), (W.alloc o).drew.heap[k]? = some (.cells cs 36 (0, 0)) → cs.size = 3 → w2.heap[k]? = (W.alloc o).drew.heap[k]?) :
    ∀ (k : Nat) (cs : Array Value), W.heap[k]? = some (.cells cs 36 (0, 0)) → cs.size = 3 → (w2.setCell ⟨b, 0, none⟩ u).heap[k]? = W.heap[k]? := by
  intro k cs hk hs
  have ha : (W.alloc o).drew.heap[k]? = W.heap[k]? := Below.heap_alloc W o k (Array.getElem?_eq_some_iff.1 hk).1
  have h2 := hone k cs (ha.trans hk) hs
  refine (Below.heap_setCell w2 _ _ k (fun e => ?_)).trans (h2.trans ha)
  have hv' : w2.heap[k]? = some (.cells #[v] 26 (0, 0)) := by rw [e]; exact hv
  rw [h2, ha, hk] at hv'
  cases hv'
theorem okGo_all {n la lb : Int} : ∀ {l : List Ed}, okGo n la lb l = true → ∀ e ∈ l, 0 ≤ e.lo ∧ e.lo ≤ e.hi ∧ e.hi ≤ n
  | [], _, e, he => by simp at he
  | x :: r, h, e, he => by
    obtain ⟨h0, h1, h2, h3, h4, h5⟩ := okGo_cons h
    rcases List.mem_cons.1 he with rfl | he
    · exact ⟨h0, h1, h2⟩
    · exact okGo_all h5 e he

set_option maxRecDepth 100000 in
set_option maxHeartbeats 2000000 in
theorem back_in (s : ByteArray) (a : Option Addr) (m cap : Nat) (l : List Ed) (w : World) (hI : IsEds w (· < w.heap.size) a m l) (hr : rightB l s.size = true) (hsz : s.size ≤ 1000000) (ht : ∀ e ∈ l, e.text.size ≤ 1000000) :
    CallsIn Fence.wide 4 Try.prog 20 #[.string s, .slice a m cap] w (BackPost w (backGo s 0 l) .u16 0) := by
  have hml : m = l.length := hI.1
  subst hml
  have hr1 : (decide (l.length ≤ 1000) && okGo s.size (-1) 0 l) = true := hr
  have h1 : l.length ≤ 1000 := by simp at hr1; exact hr1.1
  have hok : okGo s.size (-1) 0 l = true := by simp at hr1; exact hr1.2
  have HR := hide hr1
  have HO := hide hok
  clear hr hr1 hok
  have HC := hide (fun W hI => right_any a l.length cap l s.size W hI)
  refine callsIn_of_wp_marks Try.func20 rfl trivial ?_ rfl
  simp only [Try.ntmps20, List.size_toArray, List.length_cons, List.length_nil, Nat.reduceAdd, Nat.reduceSub, Array.replicate_succ, Array.replicate_zero, List.push_toArray, List.append_toArray, List.nil_append, List.cons_append]
  have hI0 : IsEds (w.alloc (.cells #[.string s] 9)) (· < (w.alloc (.cells #[.string s] 9)).heap.size) a l.length l := hI.keep fun b hb => ⟨by simp; omega, Below.heap_alloc w _ b hb⟩
  have HC2 := hide ((unhide HC) _ hI0)
  rw [HR.out] at HC2
  clear HC
  gi_wp2_with fail
  refine ⟨trivial, ?_⟩
  refine (callsIn_wide.2 (unhide HC2)).mono ?_
  rintro e w1 ⟨rfl, hb1⟩
  have b0 : Boxed w1 w.heap.size 9 (.string s) := (hb1.block w.heap.size (by simp)).trans (Boxed.new w 9 (.string s))
  have hz1 := hb1.size
  rw [World.size_alloc] at hz1
  have hI1 : IsEds w1 (· < w.heap.size) a l.length l := (hI.keep (F' := (· < w.heap.size)) fun b hb => ⟨hb, (hb1.block b (by simp; omega)).trans (Below.heap_alloc w _ b hb)⟩)
  gi_wp2_with (refine ⟨trivial, ?_⟩; gi_at_call 28; refine (callsIn_wide.2 (each_any _ _ _ _)).mono ?_; rintro e w' ⟨rfl, rfl⟩)
  have hBelow : Below w.heap.size w ((w1.alloc (.cells #[.slice none 0 0] 26)).alloc (.cells #[.slice a l.length cap] 26)) := (((((Below.refl _ w).alloc (Nat.le_refl _) _).trans (hb1.mono (by simp))).alloc (by omega) _).alloc (by simp; omega) _)
  have c0 := (b0.alloc (.cells #[.slice none 0 0] 26)).alloc (.cells #[.slice a l.length cap] 26)
  have c1 := (Boxed.new w1 26 (.slice none 0 0)).alloc (.cells #[.slice a l.length cap] 26)
  have c2 := Boxed.new (w1.alloc (.cells #[.slice none 0 0] 26)) 26 (.slice a l.length cap)
  have hsW : ((w1.alloc (.cells #[.slice none 0 0] 26)).alloc (.cells #[.slice a l.length cap] 26)).heap.size = w1.heap.size + 2 := by simp
  have hI2 : IsEds ((w1.alloc (.cells #[.slice none 0 0] 26)).alloc (.cells #[.slice a l.length cap] 26)) (· < w.heap.size) a l.length l := hI1.keep fun b hb => ⟨hb, (Below.heap_alloc _ _ b (by simp; omega)).trans (Below.heap_alloc w1 _ b (by omega))⟩
  simp only [World.size_alloc] at c2
  obtain ⟨W0, hW0⟩ : ∃ W0, (w1.alloc (.cells #[.slice none 0 0] 26)).alloc (.cells #[.slice a l.length cap] 26) = W0 := ⟨_, rfl⟩
  rw [hW0] at hBelow c0 c1 c2 hsW hI2 ⊢
  clear hW0 hI1 hI0 HC2 b0 hb1
  have hall : ∀ e ∈ l, 0 ≤ e.lo ∧ e.lo ≤ e.hi ∧ e.hi ≤ (s.size : Int) := okGo_all HO.out
  have hsm : ∀ e ∈ l, e.small := fun e he => ⟨(hall e he).1, (hall e he).2.1, by have := (hall e he).2.2; omega, ht e he⟩
  obtain ⟨i0, hi0, hz0, hz1, hz2⟩ := info_parts info36
  refine wpIn_rangeFunc_ownH rfl (by omega) (gf := 32) (lb := #[.pointer (some ⟨w1.heap.size + 1, 0, none⟩)]) rfl trivial (enters_of Try.func32 (by kernel_rfl) rfl)
    (each_stops s.size (w1.heap.size + 1) w.heap.size a cap l W0 h1 hsm (fun e he => (hall e he).2.2) (by omega) c2.cell hI2 (by omega)) Kp3.trans (fun W l' o o' hl ho hc hw => Kp3.put (w := W0) (by omega) W l' o o' hl ho hc hw) (Below.refl _ _) (fun _ => rfl)
    (fun pre W => ((∃ v, Boxed W w1.heap.size 26 v ∧ W.ownsRow w.heap.size 36 3 v pre.length ((backL s pre).flatMap edCells) ∧ (v = .slice none 0 0 ∨ 1 ≤ pre.length)) ∧ Boxed W w.heap.size 9 (.string s)) ∧ Below w.heap.size w W)
    (fun _ _ _ => False)
    (OwnFrom.and (OwnFrom.and (Own.from (holdsRow_own w.heap.size w1.heap.size 26 36 3 (fun pre : List (SE s.size) => pre.length) (fun pre => (backL s pre).flatMap edCells) (fun pre v => v = .slice none 0 0 ∨ 1 ≤ pre.length)) _) (Own.from (boxed_own _ _ _) _)) (ownFrom_below (Nat.le_refl _) (by omega)))
    (fun _ _ _ _ _ hs _ _ => hs)
    ⟨⟨⟨_, c1, World.ownsRow_nil _ _ _ _, .inl rfl⟩, c0⟩, hBelow⟩
    (fun x a' W => ∃ Bx, w1.heap.size < Bx ∧ Blk W Bx 36 #[.int .i64 x.e.lo, .int .i64 x.e.hi, .string x.e.text] ∧ a' = { tmps := #[.string s, .slice a l.length cap, .pointer (some ⟨w.heap.size, 0, none⟩), undef, .slice none 0 0, .int .u16 0, .pointer (some ⟨w1.heap.size, 0, none⟩), .int .i64 x.f, .pointer (some ⟨Bx, 0, none⟩), .slice a l.length cap, .string s, .int .i64 s.size, .bool true, .bool false, .slice a l.length cap, .func (.func 32) #[] #[.pointer (some ⟨w1.heap.size + 1, 0, none⟩)], .int .i64 x.f, .agg #[.int .i64 x.e.lo, .int .i64 x.e.hi, .string x.e.text], undef, undef, undef, undef, undef, undef, undef, undef, undef, undef, undef, undef, undef, undef, undef, undef, undef], defers := [] })
    (fun x a' _ X Y row hs hg hr => by
      obtain ⟨Bx, h1, h2, h3⟩ := hs
      refine ⟨Bx, h1, h2.grown hg (fun e' => ?_), h3⟩
      obtain ⟨_, o, ho, hc⟩ := hr Bx e'.symm
      rw [show X.heap[Bx]? = _ from h2] at ho
      cases ho
      cases hc)
    ?assign ?body ?done ?stop
  case assign =>
    rintro l' pre x W K ⟨⟨⟨v, d1, hrow, hnn⟩, d0⟩, hB1⟩ hK
    have hz := hB1.size
    dsimp only [encE, edV]
    gi_wp2_with fail
    exact hK _ _ ((KeepsOthers.alloc _ _).from _) (Kp3.alloc hz _) ⟨⟨⟨v, d1.alloc _, hrow.alloc _, hnn⟩, d0.alloc _⟩, hB1.alloc hz _⟩ ⟨W.heap.size, d1.lt, Blk.new W 36 _, rfl⟩
  case body =>
    rintro l' pre x a' W hl hr ⟨⟨⟨v, d1, hrow, hnn⟩, d0⟩, hB1⟩ ⟨Bx, hBx, bX, rfl⟩ hlt
    have hub := x.ub
    have hz := hB1.size
    have hx0 := x.lo
    have hx1 := x.hi
    have hok := x.ok
    obtain ⟨s0, s1, s2, s3⟩ := id hok
    have hmix : Try.prog.follows .mixedOrders = true := by kernel_rfl
    have k1 := d1.lt
    have kX := bX.lt
    have k0 := d0.lt
    have hn1 : pre.length + 1 ≤ maxLen := by simp only [maxLen]; omega
    have hn2 : (pre.length + 1) * 32 ≤ 140737488355328 := by omega
    have e0 := d0.cell
    have e1 := d1.cell
    obtain ⟨x0, x1, x2, _⟩ := bX.three
    have u0 : 0 ≤ x.e.hi := by omega
    have u1 : x.e.lo.toNat ≤ x.e.hi.toNat := by omega
    have u2 : x.e.hi.toNat ≤ s.size := by omega
    gi_wp2_with fail
    have v1 : IntKind.i64.wrap (x.f + (x.e.text.size : Int)) = x.f + (x.e.text.size : Int) := IntWalk.i64_in _ (by omega)
    refine wpIn_round_held (fun w' => w'.cell? ⟨w.heap.size, 0, none⟩ = some (.string s) ∧ w'.cell? ⟨Bx, 0, none⟩ = some (.int .i64 x.e.lo) ∧ w'.cell? ⟨Bx, 1, none⟩ = some (.int .i64 x.e.hi) ∧ w'.cell? ⟨Bx, 2, none⟩ = some (.string x.e.text)) hmix (by kernel_rfl) (by rintro ⟨_, _, h⟩; exact h) ⟨e0, x0, x1, x2⟩ (fun hS => ?_)
    refine wpAnyH_take (i := 1) (v := ?_) rfl (by kernel_rfl) (by kernel_rfl) (by kernel_rfl) (fun _ _ _ h => h) (Or.inl ⟨by rfl, ?_⟩) (by assumption) ?_
    rotate_left
    · intro w hSw; (try dsimp only at hSw); (try go_split_ands); go_simp
      all_goals with_reducible rfl
    try simp only [Act.put, List.getElem_toArray, List.getElem_cons_zero, List.getElem_cons_succ, List.setIfInBounds_toArray, List.set_cons_zero, List.set_cons_succ]
    refine wpAnyH_take (i := 2) (v := ?_) rfl (by kernel_rfl) (by kernel_rfl) (by kernel_rfl) (fun _ _ _ h => h) (Or.inl ⟨by rfl, ?_⟩) (by assumption) ?_
    rotate_left
    · intro w hSw; (try dsimp only at hSw); (try go_split_ands); go_simp
      all_goals with_reducible rfl
    try simp only [Act.put, List.getElem_toArray, List.getElem_cons_zero, List.getElem_cons_succ, List.setIfInBounds_toArray, List.set_cons_zero, List.set_cons_succ]
    refine wpAnyH_take (i := 3) (v := ?_) rfl (by kernel_rfl) (by kernel_rfl) (by kernel_rfl) (fun _ _ _ h => h) (Or.inl ⟨by rfl, ?_⟩) (by assumption) ?_
    rotate_left
    · intro w hSw; (try dsimp only at hSw); (try go_split_ands); go_simp
      all_goals with_reducible rfl
    try simp only [Act.put, List.getElem_toArray, List.getElem_cons_zero, List.getElem_cons_succ, List.setIfInBounds_toArray, List.set_cons_zero, List.set_cons_succ]
    refine wpAnyH_take (i := 4) (v := ?_) rfl (by kernel_rfl) (by kernel_rfl) (by kernel_rfl) (fun _ _ _ h => h) (Or.inl ⟨by rfl, ?_⟩) (by assumption) ?_
    rotate_left
    · intro w hSw; (try dsimp only at hSw); (try go_split_ands); go_simp
      all_goals with_reducible rfl
    try simp only [Act.put, List.getElem_toArray, List.getElem_cons_zero, List.getElem_cons_succ, List.setIfInBounds_toArray, List.set_cons_zero, List.set_cons_succ]
    refine wpAnyH_take (i := 5) (v := ?_) rfl (by kernel_rfl) (by kernel_rfl) (by kernel_rfl) (fun _ _ _ h => h) (Or.inl ⟨by rfl, ?_⟩) (by assumption) ?_
    rotate_left
    · intro w hSw; (try dsimp only at hSw); (try go_split_ands); go_simp
      all_goals with_reducible rfl
    try simp only [Act.put, List.getElem_toArray, List.getElem_cons_zero, List.getElem_cons_succ, List.setIfInBounds_toArray, List.set_cons_zero, List.set_cons_succ]
    refine wpAnyH_take (i := 6) (v := ?_) rfl (by kernel_rfl) (by kernel_rfl) (by kernel_rfl) (fun _ _ _ h => h) (Or.inl ⟨by rfl, ?_⟩) (by assumption) ?_
    rotate_left
    · intro w hSw; (try dsimp only at hSw); (try go_split_ands); go_simp
      all_goals with_reducible rfl
    try simp only [Act.put, List.getElem_toArray, List.getElem_cons_zero, List.getElem_cons_succ, List.setIfInBounds_toArray, List.set_cons_zero, List.set_cons_succ]
    refine wpAnyH_take (i := 7) (v := ?_) rfl (by kernel_rfl) (by kernel_rfl) (by kernel_rfl) (fun _ _ _ h => h) (Or.inl ⟨by rfl, ?_⟩) (by assumption) ?_
    rotate_left
    · intro w hSw; (try dsimp only at hSw); (try go_split_ands); go_simp
      all_goals with_reducible rfl
    try simp only [Act.put, List.getElem_toArray, List.getElem_cons_zero, List.getElem_cons_succ, List.setIfInBounds_toArray, List.set_cons_zero, List.set_cons_succ]
    refine wpAnyH_take (i := 8) (v := ?_) rfl (by kernel_rfl) (by kernel_rfl) (by kernel_rfl) (fun _ _ _ h => h) (Or.inl ⟨by rfl, ?_⟩) (by assumption) ?_
    rotate_left
    · intro w hSw; (try dsimp only at hSw); (try go_split_ands); go_simp
      all_goals with_reducible rfl
    try simp only [Act.put, List.getElem_toArray, List.getElem_cons_zero, List.getElem_cons_succ, List.setIfInBounds_toArray, List.set_cons_zero, List.set_cons_succ]
    refine wpAnyH_take (i := 9) (v := ?_) rfl (by kernel_rfl) (by kernel_rfl) (by kernel_rfl) (fun _ _ _ h => h) (Or.inl ⟨by rfl, ?_⟩) (by assumption) ?_
    rotate_left
    · intro w hSw; (try dsimp only at hSw); (try go_split_ands); go_simp
      all_goals with_reducible rfl
    try simp only [Act.put, List.getElem_toArray, List.getElem_cons_zero, List.getElem_cons_succ, List.setIfInBounds_toArray, List.set_cons_zero, List.set_cons_succ]
    refine wpAnyH_take (i := 10) (v := ?_) rfl (by kernel_rfl) (by kernel_rfl) (by kernel_rfl) (fun _ _ _ h => h) (Or.inl ⟨by rfl, ?_⟩) (by assumption) ?_
    rotate_left
    · intro w hSw; (try dsimp only at hSw); (try go_split_ands); go_simp
      all_goals with_reducible rfl
    try simp only [Act.put, List.getElem_toArray, List.getElem_cons_zero, List.getElem_cons_succ, List.setIfInBounds_toArray, List.set_cons_zero, List.set_cons_succ]
    refine wpAnyH_take (i := 11) (v := ?_) rfl (by kernel_rfl) (by kernel_rfl) (by kernel_rfl) (fun _ _ _ h => h) (Or.inl ⟨by rfl, ?_⟩) (by assumption) ?_
    rotate_left
    · intro w hSw; (try dsimp only at hSw); (try go_split_ands); go_simp
      all_goals with_reducible rfl
    try simp only [Act.put, List.getElem_toArray, List.getElem_cons_zero, List.getElem_cons_succ, List.setIfInBounds_toArray, List.set_cons_zero, List.set_cons_succ]
    refine wpAnyH_take (i := 12) (v := ?_) rfl (by kernel_rfl) (by kernel_rfl) (by kernel_rfl) (fun _ _ _ h => h) (Or.inl ⟨by rfl, ?_⟩) (by assumption) ?_
    rotate_left
    · intro w hSw; (try dsimp only at hSw); (try go_split_ands); go_simp
      all_goals with_reducible rfl
    try simp only [Act.put, List.getElem_toArray, List.getElem_cons_zero, List.getElem_cons_succ, List.setIfInBounds_toArray, List.set_cons_zero, List.set_cons_succ]
    refine wpAnyH_take (i := 13) (v := ?_) rfl (by kernel_rfl) (by kernel_rfl) (by kernel_rfl) (fun _ _ _ h => h) (Or.inl ⟨by rfl, ?_⟩) (by assumption) ?_
    rotate_left
    · intro w hSw; (try dsimp only at hSw); (try go_split_ands); go_simp
      all_goals with_reducible rfl
    try simp only [Act.put, List.getElem_toArray, List.getElem_cons_zero, List.getElem_cons_succ, List.setIfInBounds_toArray, List.set_cons_zero, List.set_cons_succ]
    refine wpAnyH_ready (rs := [0, 14]) (by kernel_rfl) (by simp) ?_
    refine AllReadyH.cons rfl (fun K hK => ?_) (AllReadyH.cons rfl (fun K hK => ?_) AllReadyH.nil)
    · go_simp
      refine hK.out _ _ ?_ (fun hHeld => ?_)
      · go_keep
      clear hK K
      try simp only [Act.put, List.getElem_toArray, List.getElem_cons_zero, List.getElem_cons_succ, List.setIfInBounds_toArray, List.set_cons_zero, List.set_cons_succ]
      refine wpAnyH_ready (rs := [14]) (by kernel_rfl) (by simp) ?_
      refine AllReadyH.cons rfl (fun K hK => ?_) AllReadyH.nil
      go_simp
      refine hK.out _ _ ?_ (fun hHeld => ?_)
      · go_keep
      clear hK K
      refine wpAnyH_ready (rs := [15]) (by kernel_rfl) (by simp) ?_
      refine AllReadyH.cons rfl (fun K hK => ?_) AllReadyH.nil
      refine step_append_one _ (by rfl) _ _ _ (by rfl) w.heap.size 36 i0 _ 3 32 Try.underlying26 hi0 hz0 hz1 hz2 rfl (by omega) v pre.length _ (by rfl) ((hrow.alloc _).drew) hnn ⟨W.heap.size, 0, none⟩ 1 [.int .i64 x.f, .int .i64 (x.f + x.e.text.size), .string (s.extract x.e.lo.toNat x.e.hi.toNat)] (by rfl) (by rfl) (World.news_of_block (cs := #[.int .i64 x.f, .int .i64 (x.f + x.e.text.size), .string (s.extract x.e.lo.toNat x.e.hi.toNat)]) (t := 36) (fr := (0, 0)) (heap_alloc_new W _)) (by simp [Value.oneCell']) hn1 hn2 (by simp; omega) ?_
      intro gg cap' w2 hown2 hgrow0 hone
      have hgrow : (W.alloc (.cells #[.int .i64 x.f, .int .i64 (x.f + x.e.text.size), .string (s.extract x.e.lo.toNat x.e.hi.toNat)] 36)).grownBy w2 v.ownBlock := ⟨hgrow0.os, hgrow0.tape, hgrow0.output, hgrow0.size, hgrow0.block⟩
      have f0 := (d0.alloc (.cells #[.int .i64 x.f, .int .i64 (x.f + x.e.text.size), .string (s.extract x.e.lo.toNat x.e.hi.toNat)] 36)).kept hgrow (d0.not_row (by decide) hrow)
      have fX : Blk w2 Bx 36 #[.int .i64 x.e.lo, .int .i64 x.e.hi, .string x.e.text] := (hone Bx _ (bX.alloc _) rfl).trans (bX.alloc _)
      obtain ⟨hv1, hv2, hr2, hk2, hb2⟩ := d1.appended (by decide) hrow hz (show w.heap.size ≤ w1.heap.size by omega) hown2 hgrow
      have hv3 := hv1.cell
      have hv4 := hv1.frozen
      refine hK.out _ _ ⟨f0.cell, fX.cell 0, fX.cell 1, fX.cell 2⟩ (fun hHeld => ?_)
      clear hK K
      try simp only [Act.put, List.getElem_toArray, List.getElem_cons_zero, List.getElem_cons_succ, List.setIfInBounds_toArray, List.set_cons_zero, List.set_cons_succ]
      refine wpAnyH_ready (rs := [16]) (by kernel_rfl) (by simp) ?_
      refine AllReadyH.cons rfl (fun K hK => ?_) AllReadyH.nil
      go_simp
      have fY := fX.far (p := ⟨w1.heap.size, 0, none⟩) (by simp; omega) (.slice (some ⟨gg, 0, none⟩) (pre.length + 1) cap')
      refine hK.out _ _ ⟨(f0.other (by omega) _).cell, fY.cell 0, fY.cell 1, fY.cell 2⟩ (fun hHeld => ?_)
      clear hK K
      refine wpAnyH_done (by kernel_rfl) ?_ _
      clear v1
      gi_wp2_with fail
      exact ⟨hk2.from _, ⟨hb2, kp3_one hv1 hone⟩, ⟨⟨_, hv2, by rw [List.length_append, backL_snoc, List.flatMap_append]; exact hr2, .inr (by simp)⟩, f0.other (by omega) _⟩, hB1.trans hb2⟩
    · go_simp
      refine hK.out _ _ ?_ (fun hHeld => ?_)
      · go_keep
      clear hK K
      try simp only [Act.put, List.getElem_toArray, List.getElem_cons_zero, List.getElem_cons_succ, List.setIfInBounds_toArray, List.set_cons_zero, List.set_cons_succ]
      refine wpAnyH_ready (rs := [0]) (by kernel_rfl) (by simp) ?_
      refine AllReadyH.cons rfl (fun K hK => ?_) AllReadyH.nil
      go_simp
      refine hK.out _ _ ?_ (fun hHeld => ?_)
      · go_keep
      clear hK K
      refine wpAnyH_ready (rs := [15]) (by kernel_rfl) (by simp) ?_
      refine AllReadyH.cons rfl (fun K hK => ?_) AllReadyH.nil
      refine step_append_one _ (by rfl) _ _ _ (by rfl) w.heap.size 36 i0 _ 3 32 Try.underlying26 hi0 hz0 hz1 hz2 rfl (by omega) v pre.length _ (by rfl) ((hrow.alloc _).drew) hnn ⟨W.heap.size, 0, none⟩ 1 [.int .i64 x.f, .int .i64 (x.f + x.e.text.size), .string (s.extract x.e.lo.toNat x.e.hi.toNat)] (by rfl) (by rfl) (World.news_of_block (cs := #[.int .i64 x.f, .int .i64 (x.f + x.e.text.size), .string (s.extract x.e.lo.toNat x.e.hi.toNat)]) (t := 36) (fr := (0, 0)) (heap_alloc_new W _)) (by simp [Value.oneCell']) hn1 hn2 (by simp; omega) ?_
      intro gg cap' w2 hown2 hgrow0 hone
      have hgrow : (W.alloc (.cells #[.int .i64 x.f, .int .i64 (x.f + x.e.text.size), .string (s.extract x.e.lo.toNat x.e.hi.toNat)] 36)).grownBy w2 v.ownBlock := ⟨hgrow0.os, hgrow0.tape, hgrow0.output, hgrow0.size, hgrow0.block⟩
      have f0 := (d0.alloc (.cells #[.int .i64 x.f, .int .i64 (x.f + x.e.text.size), .string (s.extract x.e.lo.toNat x.e.hi.toNat)] 36)).kept hgrow (d0.not_row (by decide) hrow)
      have fX : Blk w2 Bx 36 #[.int .i64 x.e.lo, .int .i64 x.e.hi, .string x.e.text] := (hone Bx _ (bX.alloc _) rfl).trans (bX.alloc _)
      obtain ⟨hv1, hv2, hr2, hk2, hb2⟩ := d1.appended (by decide) hrow hz (show w.heap.size ≤ w1.heap.size by omega) hown2 hgrow
      have hv3 := hv1.cell
      have hv4 := hv1.frozen
      refine hK.out _ _ ⟨f0.cell, fX.cell 0, fX.cell 1, fX.cell 2⟩ (fun hHeld => ?_)
      clear hK K
      try simp only [Act.put, List.getElem_toArray, List.getElem_cons_zero, List.getElem_cons_succ, List.setIfInBounds_toArray, List.set_cons_zero, List.set_cons_succ]
      refine wpAnyH_ready (rs := [16]) (by kernel_rfl) (by simp) ?_
      refine AllReadyH.cons rfl (fun K hK => ?_) AllReadyH.nil
      go_simp
      have fY := fX.far (p := ⟨w1.heap.size, 0, none⟩) (by simp; omega) (.slice (some ⟨gg, 0, none⟩) (pre.length + 1) cap')
      refine hK.out _ _ ⟨(f0.other (by omega) _).cell, fY.cell 0, fY.cell 1, fY.cell 2⟩ (fun hHeld => ?_)
      clear hK K
      refine wpAnyH_done (by kernel_rfl) ?_ _
      clear v1
      gi_wp2_with fail
      exact ⟨hk2.from _, ⟨hb2, kp3_one hv1 hone⟩, ⟨⟨_, hv2, by rw [List.length_append, backL_snoc, List.flatMap_append]; exact hr2, .inr (by simp)⟩, f0.other (by omega) _⟩, hB1.trans hb2⟩
  case done =>
    rintro D zs W hD hS ⟨⟨⟨v, d1, hrow, hnn⟩, d0⟩, hB1⟩ hK
    have e1 := d1.cell
    have hlen : zs.length ≤ 1000 := by have := congrArg List.length hS; rw [List.length_map, fromL_len] at this; omega
    have HB := hide (show backL s zs = backGo s 0 l by rw [backGo_is, ← hS, List.map_map]; rfl)
    obtain ⟨av, cv, rfl⟩ := own_form hrow
    gi_wp2_with fail
    refine ⟨by simp, .inl ⟨_, _, rfl, run_takeDeferred hK, ?_⟩⟩
    have hrow2 := ownsRow_putObj hrow (.deferred none) hK rfl
    obtain ⟨a', c', hv', hI'⟩ := IsEds.of_own hrow2 (by simp [backL]) (by simp only [maxLen]; omega) backL_fits
    obtain ⟨rfl, rfl⟩ : av = a' ∧ cv = c' := by simp at hv'; exact hv'
    refine ⟨_, results_tmp2 rfl _ _ _, av, zs.length, cv, rfl, ?_, hB1.trans (belowK_b (w := w) (Nat.le_refl _) W D _ _ (by omega) hK rfl rfl)⟩
    rw [← HB.out]
    exact hI'
  case stop =>
    rintro D c pre W _ _ h _
    exact h.elim

theorem back_yes (s : ByteArray) (a : Option Addr) (m cap : Nat) (l : List Ed) (w : World) (hI : IsEds w (· < w.heap.size) a m l) (hr : rightB l s.size = true) (hsz : s.size ≤ 1000000) (ht : ∀ e ∈ l, e.text.size ≤ 1000000) :
    Calls Try.prog 20 #[.string s, .slice a m cap] w (BackPost w (backGo s 0 l) .u16 0) :=
  callsIn_wide.1 (back_in s a m cap l w hI hr hsz ht)

set_option maxHeartbeats 400000 in
theorem back_no (s : ByteArray) (a : Option Addr) (m cap : Nat) (l : List Ed) (w : World) (hI : IsEds w (· < w.heap.size) a m l) (hr : rightB l s.size = false) :
    Calls Try.prog 20 #[.string s, .slice a m cap] w (BackPost w [] .u16 1) := by
  have hr1 : (decide (l.length ≤ 1000) && okGo s.size (-1) 0 l) = false := hr
  have hI0 : IsEds (w.alloc (.cells #[.string s] 9)) (· < (w.alloc (.cells #[.string s] 9)).heap.size) a m l := hI.keep fun b hb => ⟨by simp; omega, Below.heap_alloc w _ b hb⟩
  have HC := right_any a m cap l s.size _ hI0
  rw [hr1] at HC
  have HC2 := hide HC
  clear HC hr hr1
  go_enter Try.func20, Try.ntmps20
  go_wp2_with fail
  refine (unhide HC2).mono ?_
  rintro e w1 ⟨rfl, hb1⟩
  go_wp2_with fail
  go_ret2
  exact ⟨none, 0, 0, rfl, ⟨rfl, Nat.zero_le _, by simp, by simp⟩, ((Below.refl _ w).alloc (Nat.le_refl _) _).trans (hb1.mono (by simp))⟩
end Go.Proofs.Ytfncmabjmlmcfaa
