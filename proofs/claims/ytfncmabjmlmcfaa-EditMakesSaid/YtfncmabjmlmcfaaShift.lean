/-
  The walk of edit.Shift: where a byte stands behind edits.
  Its conditions: the slice reads as at most a thousand edits of small numbers; the place is small.
-/
import Derived.Test.YtfncmabjmlmcfaaEach
import Derived.Test.YtfncmabjmlmcfaaFence
import Derived.RangeFuncNested
import Derived.RangeFuncBound
import Derived.RangeFuncCalls
import Derived.RangeFuncLeaves
import Derived.Shelf.Abstract
import Derived.Shelf.RegionOpen
import Derived.OwnWalkIn
import Derived.TacticsInMore
import Derived.LoopNIn
import Derived.LoopIn
namespace Go.Proofs.Ytfncmabjmlmcfaa
open Go.RowKit Go.Shelf
attribute [local go_sem] Oper.semAt_some


/-- What the variable holds behind rounds. -/
def toP (p : Int) : Int → List (Int × Ed) → Int
  | t, [] => t
  | t, x :: r => toP p (if x.2.hi ≤ p then p + (x.1 - x.2.lo) + moreE x.2 else t) r
theorem toP_snoc (p : Int) : ∀ (l : List (Int × Ed)) (t : Int) (x : Int × Ed), toP p t (l ++ [x]) = if x.2.hi ≤ p then p + (x.1 - x.2.lo) + moreE x.2 else toP p t l
  | [], t, x => rfl
  | y :: r, t, x => by simp only [List.cons_append, toP]; exact toP_snoc p r _ x
/-- Does the byte p lie within the edit? -/
def hitP (p : Int) (x : Int × Ed) : Prop := p < x.2.hi ∧ x.2.lo ≤ p
/-- What the program's Shift comes to. -/
def progShift (p : Int) : Int → List (Int × Ed) → Int
  | t, [] => t
  | t, x :: r => if x.2.hi ≤ p then progShift p (p + (x.1 - x.2.lo) + moreE x.2) r else if x.2.lo ≤ p then x.1 else progShift p t r
theorem progShift_all (p : Int) : ∀ (l : List (Int × Ed)) (t : Int), (∀ x ∈ l, ¬ hitP p x) → progShift p t l = toP p t l
  | [], t, _ => rfl
  | x :: r, t, h => by
    have hr := progShift_all p r
    have hx := h x (List.mem_cons_self ..)
    unfold hitP at hx
    simp only [progShift, toP]
    split
    · exact hr _ (fun y hy => h y (List.mem_cons_of_mem _ hy))
    · rw [if_neg (by omega)]
      exact hr _ (fun y hy => h y (List.mem_cons_of_mem _ hy))
theorem progShift_hit (p : Int) : ∀ (l : List (Int × Ed)) (t : Int) (x : Int × Ed) (s : List (Int × Ed)), (∀ x ∈ l, ¬ hitP p x) → hitP p x → progShift p t (l ++ x :: s) = x.1
  | [], t, x, s, _, hx => by
    unfold hitP at hx
    simp only [List.nil_append, progShift]
    rw [if_neg (by omega), if_pos hx.2]
  | y :: r, t, x, s, h, hx => by
    have hy := h y (List.mem_cons_self ..)
    unfold hitP at hy
    have hr := progShift_hit p r
    simp only [List.cons_append, progShift]
    split
    · exact hr _ _ _ (fun y hy => h y (List.mem_cons_of_mem _ hy)) hx
    · rw [if_neg (by omega)]
      exact hr _ _ _ (fun y hy => h y (List.mem_cons_of_mem _ hy)) hx
def Stays (p : Int) (pre : List (SE 1000000)) : Prop := ∀ x ∈ pre.map SE.pair, ¬ hitP p x
theorem Stays.snoc {p : Int} {pre : List (SE 1000000)} {x : SE 1000000} (h : Stays p pre) (hx : ¬ hitP p x.pair) : Stays p (pre ++ [x]) := by
  intro y hy
  rw [List.map_append, List.map_singleton] at hy
  rcases List.mem_append.1 hy with hy | hy
  · exact h y hy
  · obtain rfl := List.mem_singleton.1 hy
    exact hx
def toS (p : Int) (pre : List (SE 1000000)) : Int := toP p p (pre.map SE.pair)
theorem toS_yes {p : Int} {pre : List (SE 1000000)} {x : SE 1000000} (h : x.e.hi ≤ p) : toS p (pre ++ [x]) = p + (x.f - x.e.lo) + moreE x.e := by
  rw [toS, List.map_append, List.map_singleton, toP_snoc, if_pos (show x.pair.2.hi ≤ p from h)]; rfl
theorem toS_no {p : Int} {pre : List (SE 1000000)} {x : SE 1000000} (h : p < x.e.hi) : toS p (pre ++ [x]) = toS p pre := by
  rw [toS, List.map_append, List.map_singleton, toP_snoc, if_neg (show ¬ x.pair.2.hi ≤ p from by show ¬ x.e.hi ≤ p; omega)]; rfl
theorem results_cell1 {fn : Func} {p : Tmp} {ty : TypeId} (h : fn.results = #[.cell p ty]) (tmps : Array Value) (P : Program) (w : World) :
    (results fn tmps).run P w = ((asAddr (tmps.getD p undef)).run P w).andThen fun a w₁ => (loadVar ty a).run P w₁ := by
  simp only [results, h]
  simp [Sem.run_bind, Result.andThen]

theorem more_exact (x : Ed) (w : World) (hs : x.small) :
    Calls Try.prog 29 #[.agg #[.int .i64 x.lo, .int .i64 x.hi, .string x.text]] w fun e w' => e = .returned (.int .i64 (moreE x)) ∧ w' = w.alloc (.cells #[.int .i64 x.lo, .int .i64 x.hi, .string x.text] 36) := by
  obtain ⟨h0, h1, h2, h3⟩ := hs
  go_enter Try.func29, Try.ntmps29
  go_wp2_with fail
  go_ret
  exact ⟨rfl, rfl⟩

theorem Kp3.set {n : Nat} {W : World} {b : Nat} {t : TypeId} {v : Value} (h : Boxed W b t v) (hb : n ≤ b) (u : Value) : Kp3 n W (W.setCell ⟨b, 0, none⟩ u) :=
  ⟨(Below.refl n W).setCell (p := ⟨b, 0, none⟩) hb u, fun k cs hk hs => Below.heap_setCell _ _ _ _ (fun e => by
    have h' : W.heap[k]? = some (.cells #[v] t (0, 0)) := by rw [e]; exact h
    rw [h'] at hk; cases hk; simp at hs)⟩
theorem Kp3.alloc {n : Nat} {W : World} (hn : n ≤ W.heap.size) (o : Obj) : Kp3 n W (W.alloc o) :=
  ⟨(Below.refl n W).alloc hn o, fun k cs hk _ => Below.heap_alloc _ _ _ ((Array.getElem?_eq_some_iff.1 hk).1)⟩
theorem Kp3.refl (n : Nat) (W : World) : Kp3 n W W := ⟨Below.refl n W, fun _ _ _ _ => rfl⟩
theorem Kp3.drew {n : Nat} {A B : World} (h : Kp3 n A B) : Kp3 n A B.drew := ⟨h.below.drew, h.one⟩

set_option maxRecDepth 100000 in
set_option maxHeartbeats 2000000 in
theorem shift_in (a : Option Addr) (m cap : Nat) (l : List Ed) (p : Int) (w : World) (hI : IsEds w (· < w.heap.size) a m l) (h1 : l.length ≤ 1000) (hs : ∀ e ∈ l, e.small) (hp : -1000000 ≤ p) (hp2 : p ≤ 1000000) :
    CallsIn Fence.wide 4 Try.prog 21 #[.slice a m cap, .int .i64 p] w fun e w' => e = .returned (.int .i64 (progShift p p (fromL 0 l))) ∧ Below w.heap.size w w' := by
  have hml : m = l.length := hI.1
  subst hml
  refine callsIn_of_wp_marks Try.func21 rfl trivial ?_ rfl
  simp only [Try.ntmps21, List.size_toArray, List.length_cons, List.length_nil, Nat.reduceAdd, Nat.reduceSub, Array.replicate_succ, Array.replicate_zero, List.push_toArray, List.append_toArray, List.nil_append, List.cons_append]
  gi_wp2_with (refine ⟨trivial, ?_⟩; gi_at_call 28; refine (callsIn_wide.2 (each_any _ _ _ _)).mono ?_; rintro e w' ⟨rfl, rfl⟩)
  have b0 := (((Boxed.new w 3 (.int .i64 p)).alloc (.cells #[.int .i64 0] 3)).alloc (.cells #[.int .i64 p] 3)).alloc (.cells #[.slice a l.length cap] 26)
  have b1 := ((Boxed.new (w.alloc (.cells #[.int .i64 p] 3)) 3 (.int .i64 0)).alloc (.cells #[.int .i64 p] 3)).alloc (.cells #[.slice a l.length cap] 26)
  have b2 := (Boxed.new ((w.alloc (.cells #[.int .i64 p] 3)).alloc (.cells #[.int .i64 0] 3)) 3 (.int .i64 p)).alloc (.cells #[.slice a l.length cap] 26)
  have b3 := Boxed.new (((w.alloc (.cells #[.int .i64 p] 3)).alloc (.cells #[.int .i64 0] 3)).alloc (.cells #[.int .i64 p] 3)) 26 (.slice a l.length cap)
  simp only [World.size_alloc] at b1 b2 b3
  have hB0 : Below w.heap.size w ((((w.alloc (.cells #[.int .i64 p] 3)).alloc (.cells #[.int .i64 0] 3)).alloc (.cells #[.int .i64 p] 3)).alloc (.cells #[.slice a l.length cap] 26)) := ((((Below.refl _ w).alloc (Nat.le_refl _) _).alloc (by simp) _).alloc (by simp; omega) _).alloc (by simp; omega) _
  have hsz : ((((w.alloc (.cells #[.int .i64 p] 3)).alloc (.cells #[.int .i64 0] 3)).alloc (.cells #[.int .i64 p] 3)).alloc (.cells #[.slice a l.length cap] 26)).heap.size = w.heap.size + 4 := by simp
  obtain ⟨W0, hW0⟩ : ∃ W0, (((w.alloc (.cells #[.int .i64 p] 3)).alloc (.cells #[.int .i64 0] 3)).alloc (.cells #[.int .i64 p] 3)).alloc (.cells #[.slice a l.length cap] 26) = W0 := ⟨_, rfl⟩
  rw [hW0] at b0 b1 b2 b3 hB0 hsz ⊢
  clear hW0
  refine wpIn_rangeFunc_ownH rfl (by omega) (gf := 32) (lb := #[.pointer (some ⟨w.heap.size + 1 + 1 + 1, 0, none⟩)]) rfl trivial (enters_of Try.func32 (by kernel_rfl) rfl)
    (each_stops 1000000 (w.heap.size + 1 + 1 + 1) w.heap.size a cap l W0 h1 hs (fun e he => (hs e he).2.2.1) (by omega) b3.cell (hI.below hB0) (by omega)) Kp3.trans (fun W l' o o' hl ho hc hw => Kp3.put (w := W0) (by omega) W l' o o' hl ho hc hw) (Below.refl _ _) (fun _ => rfl)
    (fun pre W => ((Boxed W (w.heap.size + 1 + 1) 3 (.int .i64 (toS p pre)) ∧ Boxed W w.heap.size 3 (.int .i64 p)) ∧ Boxed W (w.heap.size + 1) 3 (.int .i64 0)) ∧ (Below w.heap.size w W ∧ Stays p pre))
    (fun c pre W => ((∃ pre0 x, c = .ret ∧ pre = pre0 ++ [x] ∧ Stays p pre0 ∧ hitP p (SE.pair x) ∧ Boxed W (w.heap.size + 1) 3 (.int .i64 x.f)) ∧ Below w.heap.size w W))
    (OwnFrom.and (OwnFrom.and (OwnFrom.and (Own.from (boxed_own _ _ _) _) (Own.from (boxed_own _ _ _) _)) (Own.from (boxed_own _ _ _) _)) (OwnFrom.and (ownFrom_below (Nat.le_refl _) (by omega)) (ownFrom_pure _ _)))
    (fun c => OwnFrom.and (fun pre X Y row hs hg hr => by obtain ⟨pre0, x, h1, h2, h3, h4, h5⟩ := hs; exact ⟨pre0, x, h1, h2, h3, h4, boxed_own _ 3 (fun (_ : Unit) => Value.int .i64 x.f) () X Y row h5 hg (fun r e => (hr r e).2)⟩) (ownFrom_below (Nat.le_refl _) (by omega)))
    ⟨⟨⟨b2, b0⟩, b1⟩, hB0, by simp [Stays]⟩
    (fun x a' W => ∃ Bx, w.heap.size + 1 + 1 < Bx ∧ Blk W Bx 36 #[.int .i64 x.e.lo, .int .i64 x.e.hi, .string x.e.text] ∧ a' = { tmps := #[.slice a l.length cap, .int .i64 p, undef, .pointer (some ⟨w.heap.size, 0, none⟩), .pointer (some ⟨w.heap.size + 1, 0, none⟩), .pointer (some ⟨w.heap.size + 1 + 1, 0, none⟩), .int .i64 x.f, .pointer (some ⟨Bx, 0, none⟩), .int .i64 p, .slice a l.length cap, .func (.func 32) #[] #[.pointer (some ⟨w.heap.size + 1 + 1 + 1, 0, none⟩)], .int .i64 x.f, .agg #[.int .i64 x.e.lo, .int .i64 x.e.hi, .string x.e.text], undef, undef, undef, undef, undef, undef, undef, undef, undef, undef, undef, undef, undef, undef, undef, undef, undef, undef, undef, undef, undef], defers := [] })
    (fun x a' _ X Y row hs hg hr => by
      obtain ⟨Bx, h1, h2, h3⟩ := hs
      refine ⟨Bx, h1, h2.grown hg (fun e' => ?_), h3⟩
      obtain ⟨_, o, ho, hc⟩ := hr Bx e'.symm
      rw [show X.heap[Bx]? = _ from h2] at ho
      cases ho
      cases hc)
    ?assign ?body ?done ?stop
  case assign =>
    rintro l' pre x W K ⟨⟨⟨c2, c0⟩, c1⟩, hB1, hst⟩ hK
    have hz := hB1.size
    dsimp only [encE, edV]
    gi_wp2_with fail
    exact hK _ _ ((KeepsOthers.alloc _ _).from _) (Kp3.alloc hz _) ⟨⟨⟨c2.alloc _, c0.alloc _⟩, c1.alloc _⟩, hB1.alloc hz _, hst⟩ ⟨W.heap.size, c2.lt, Blk.new W 36 _, rfl⟩
  case body =>
    rintro l' pre x a' W hl hr ⟨⟨⟨c2, c0⟩, c1⟩, hB1, hst⟩ ⟨Bx, hBx, bX, rfl⟩ hlt
    have d0 := c0.cell
    have d1 := c1.cell
    have d2 := c2.cell
    have e0 := c0.frozen
    have e1 := c1.frozen
    have e2 := c2.frozen
    obtain ⟨x0, x1, x2, y0, y1, y2⟩ := bX.three
    have hz := hB1.size
    have hx0 := x.lo
    have hx1 := x.hi
    have hok := x.ok
    obtain ⟨s0, s1, s2, s3⟩ := id hok
    have hmo := moreE_le hok
    have hmix : Try.prog.follows .mixedOrders = true := by kernel_rfl
    have k2 := c2.lt
    have k0 := c0.lt
    clear d1 e0 e1 y0 y1 y2 hB0 b0 b1 b2 b3 hI hr
    have kX := bX.lt
    by_cases g1 : x.e.hi ≤ p
    · have HH := hide (And.intro c2 (And.intro c0 (And.intro c1 (And.intro hB1 (And.intro hst bX)))))
      clear c2 c0 c1 hB1 hst bX hs h1 hl hlt hsz hz
      gi_wp2_with fail
      have v1 : IntKind.i64.wrap (x.f - x.e.lo) = x.f - x.e.lo := IntWalk.i64_in _ (by omega)
      have v2 : IntKind.i64.wrap (p + (x.f - x.e.lo)) = p + (x.f - x.e.lo) := IntWalk.i64_in _ (by omega)
      have v3 : IntKind.i64.wrap (p + (x.f - x.e.lo) + moreE x.e) = p + (x.f - x.e.lo) + moreE x.e := IntWalk.i64_in _ (by omega)
      refine wpIn_round_held (fun w' => w'.cell? ⟨w.heap.size, 0, none⟩ = some (.int .i64 p) ∧ w'.cell? ⟨Bx, 0, none⟩ = some (.int .i64 x.e.lo) ∧ w'.cell? ⟨Bx, 1, none⟩ = some (.int .i64 x.e.hi) ∧ w'.cell? ⟨Bx, 2, none⟩ = some (.string x.e.text)) hmix (by kernel_rfl) (by rintro ⟨_, _, h⟩; exact h) ⟨d0, x0, x1, x2⟩ (fun hS => ?_)
      refine wpAnyH_take (i := 0) (v := ?_) rfl (by kernel_rfl) (by kernel_rfl) (by kernel_rfl) (fun _ _ _ h => h) (Or.inl ⟨by rfl, ?_⟩) (by assumption) ?_
      rotate_left
      · intro w hSw; (try dsimp only at hSw); (try go_split_ands); go_simp
        all_goals with_reducible rfl
      try simp only [Act.put, List.getElem_toArray, List.getElem_cons_zero, List.getElem_cons_succ, List.setIfInBounds_toArray, List.set_cons_zero, List.set_cons_succ]
      refine wpAnyH_take (i := 1) (v := ?_) rfl (by kernel_rfl) (by kernel_rfl) (by kernel_rfl) (fun _ _ _ h => h) (Or.inl ⟨by rfl, ?_⟩) (by assumption) ?_
      rotate_left
      · intro w hSw; (try dsimp only at hSw); (try go_split_ands); go_simp
        all_goals with_reducible rfl
      try simp only [Act.put, List.getElem_toArray, List.getElem_cons_zero, List.getElem_cons_succ, List.setIfInBounds_toArray, List.set_cons_zero, List.set_cons_succ]
      refine wpAnyH_take (i := 2) (v := ?_) rfl (by kernel_rfl) (by kernel_rfl) (by kernel_rfl) (fun _ _ _ h => h) (Or.inl ⟨by rfl, ?_⟩) (by assumption) ?_
      rotate_left
      · intro w hSw; (try dsimp only at hSw); (try go_split_ands); go_simp
        all_goals with_reducible rfl
      try simp only [Act.put, List.getElem_toArray, List.getElem_cons_zero, List.getElem_cons_succ, List.setIfInBounds_toArray, List.set_cons_zero, List.set_cons_succ]
      refine wpAnyH_take (i := 3) (v := ?_) rfl (by kernel_rfl) (by kernel_rfl) (by kernel_rfl) (fun _ _ _ h => h) (Or.inl ⟨by rfl, ?_⟩) (by assumption) ?_
      rotate_left
      · intro w hSw; (try dsimp only at hSw); (try go_split_ands); go_simp
        all_goals with_reducible rfl
      try simp only [Act.put, List.getElem_toArray, List.getElem_cons_zero, List.getElem_cons_succ, List.setIfInBounds_toArray, List.set_cons_zero, List.set_cons_succ]
      refine wpAnyH_take (i := 4) (v := ?_) rfl (by kernel_rfl) (by kernel_rfl) (by kernel_rfl) (fun _ _ _ h => h) (Or.inl ⟨by rfl, ?_⟩) (by assumption) ?_
      rotate_left
      · intro w hSw; (try dsimp only at hSw); (try go_split_ands); go_simp
        all_goals with_reducible rfl
      try simp only [Act.put, List.getElem_toArray, List.getElem_cons_zero, List.getElem_cons_succ, List.setIfInBounds_toArray, List.set_cons_zero, List.set_cons_succ]
      refine wpAnyH_take (i := 5) (v := ?_) rfl (by kernel_rfl) (by kernel_rfl) (by kernel_rfl) (fun _ _ _ h => h) (Or.inl ⟨by rfl, ?_⟩) (by assumption) ?_
      rotate_left
      · intro w hSw; (try dsimp only at hSw); (try go_split_ands); go_simp
        all_goals with_reducible rfl
      try simp only [Act.put, List.getElem_toArray, List.getElem_cons_zero, List.getElem_cons_succ, List.setIfInBounds_toArray, List.set_cons_zero, List.set_cons_succ]
      refine wpAnyH_take (i := 6) (v := ?_) rfl (by kernel_rfl) (by kernel_rfl) (by kernel_rfl) (fun _ _ _ h => h) (Or.inl ⟨by rfl, ?_⟩) (by assumption) ?_
      rotate_left
      · intro w hSw; (try dsimp only at hSw); (try go_split_ands); go_simp
        all_goals with_reducible rfl
      try simp only [Act.put, List.getElem_toArray, List.getElem_cons_zero, List.getElem_cons_succ, List.setIfInBounds_toArray, List.set_cons_zero, List.set_cons_succ]
      refine wpAnyH_ready (rs := [7]) (by kernel_rfl) (by simp) ?_
      refine AllReadyH.cons rfl (fun K hK => ?_) AllReadyH.nil
      go_simp
      refine (more_exact x.e _ hok).mono ?_
      rintro e w' ⟨rfl, rfl⟩
      go_simp
      refine hK.out _ _ ?_ (fun hHeld => ?_)
      · go_keep
      clear hK K
      refine wpAnyH_take (i := 8) (v := ?_) rfl (by kernel_rfl) (by kernel_rfl) (by kernel_rfl) (fun _ _ _ h => h) (Or.inl ⟨by rfl, ?_⟩) (by assumption) ?_
      rotate_left
      · intro w hSw; (try dsimp only at hSw); (try go_split_ands); go_simp
        all_goals with_reducible rfl
      try simp only [Act.put, List.getElem_toArray, List.getElem_cons_zero, List.getElem_cons_succ, List.setIfInBounds_toArray, List.set_cons_zero, List.set_cons_succ]
      refine wpAnyH_ready (rs := [9]) (by kernel_rfl) (by simp) ?_
      refine AllReadyH.cons rfl (fun K hK => ?_) AllReadyH.nil
      go_simp
      refine hK.out _ _ ?_ (fun hHeld => ?_)
      · obtain ⟨c2, c0, c1, hB1, hst, bX⟩ := HH.out
        have bY := (bX.far (p := ⟨w.heap.size + 1 + 1, 0, none⟩) (by simp; omega) (.int .i64 (p + (x.f - x.e.lo) + moreE x.e))).alloc (.cells #[.int .i64 x.e.lo, .int .i64 x.e.hi, .string x.e.text] 36)
        exact ⟨((c0.other (by omega) _).alloc _).cell, bY.cell 0, bY.cell 1, bY.cell 2⟩
      clear hK K
      refine wpAnyH_done (by kernel_rfl) ?_ _
      clear v1 v2 v3
      gi_wp2_with fail
      obtain ⟨c2, c0, c1, hB1, hst, bX⟩ := HH.out
      have hz := hB1.size
      refine ⟨(((KeepsOthers.setCell W _ _).trans (KeepsOthers.alloc _ _)).trans (KeepsOthers.drew _)).from _, ((Kp3.set c2 (by omega) _).trans (Kp3.alloc (by simp; omega) _)).drew, ⟨⟨?_, (c0.other (by omega) _).alloc _⟩, (c1.other (by omega) _).alloc _⟩, ((hB1.setCell (p := ⟨w.heap.size + 1 + 1, 0, none⟩) (by simp; omega) _).alloc (by simp; omega) _).drew, hst.snoc (by unfold hitP; show ¬ (p < x.e.hi ∧ x.e.lo ≤ p); omega)⟩
      rw [toS_yes g1]
      exact (c2.set _).alloc _
    · by_cases g2 : x.e.lo ≤ p
      · have e1 := c1.frozen
        have d1 := c1.cell
        gi_wp2_with fail
        exact ⟨(KeepsOthers.setCell _ _ _).from _, ⟨rfl, pre, x, rfl, hst, ⟨by show p < x.e.hi; omega, g2⟩, c1.set _⟩, hB1.setCell (p := ⟨w.heap.size + 1, 0, none⟩) (by simp) _⟩
      · gi_wp2_with fail
        exact ⟨KeepsFrom.refl _ _, Kp3.refl _ _, ⟨⟨by rw [toS_no (by omega)]; exact c2, c0⟩, c1⟩, hB1, hst.snoc (by unfold hitP; show ¬ (p < x.e.hi ∧ x.e.lo ≤ p); omega)⟩
  case done =>
    rintro D zs W hD hS ⟨⟨⟨c2, c0⟩, c1⟩, hB1, hst⟩ hK
    have d1 := c1.cell
    have d2 := c2.cell
    have e1 := c1.frozen
    have HR := hide (show toS p zs = progShift p p (fromL 0 l) by rw [← hS, progShift_all _ _ _ hst]; rfl)
    have hD2 : w.heap.size + 1 + 1 < D := by omega
    gi_wp2_with fail
    refine ⟨by simp, .inl ⟨_, _, rfl, run_takeDeferred ((KeepsOthers.setCell _ _ _).same D _ hK rfl), ?_⟩⟩
    have c3 := Boxed.kept (c1.set (.int .i64 (toS p zs))) (grownBy_putObj' (W.setCell ⟨w.heap.size + 1, 0, none⟩ (.int .i64 (toS p zs))) D (.deferred none)) (fun e => by have : w.heap.size + 1 = D := (by simpa using e); omega)
    have c4 := c3.cell
    refine ⟨.int .i64 (toS p zs), (results_cell1 rfl _ _ _).trans ?_, ?_, ?_⟩
    · go_simp
    · rw [HR.out]
    · exact (hB1.setCell (p := ⟨w.heap.size + 1, 0, none⟩) (by simp) _).trans (belowK_b (w := w) (Nat.le_refl _) _ D _ _ (by omega) ((KeepsOthers.setCell _ _ _).same D _ hK rfl) rfl rfl)
  case stop =>
    rintro D c pre W hD hSp ⟨⟨pre0, x, rfl, rfl, hst, hhit, c1⟩, hB1⟩ hK
    gi_wp2_with fail
    refine ⟨by simp, .inl ⟨_, _, rfl, run_takeDeferred hK, ?_⟩⟩
    have c3 := c1.kept (grownBy_putObj' W D (.deferred none)) (fun e => by have : w.heap.size + 1 = D := (by simpa using e); omega)
    have c4 := c3.cell
    refine ⟨.int .i64 x.f, (results_cell1 rfl _ _ _).trans ?_, ?_, ?_⟩
    · go_simp
    · obtain ⟨r, hr⟩ := hSp
      rw [← hr, List.map_append, List.map_singleton, List.append_assoc]
      rw [show [x.pair] ++ r = x.pair :: r from rfl, progShift_hit _ _ _ _ _ hst hhit]
      rfl
    · exact hB1.trans (belowK_b (w := w) (Nat.le_refl _) W D _ _ (by omega) hK rfl rfl)

theorem shift_any (a : Option Addr) (m cap : Nat) (l : List Ed) (p : Int) (w : World) (hI : IsEds w (· < w.heap.size) a m l) (h1 : l.length ≤ 1000) (hs : ∀ e ∈ l, e.small) (hp : -1000000 ≤ p) (hp2 : p ≤ 1000000) :
    Calls Try.prog 21 #[.slice a m cap, .int .i64 p] w fun e w' => e = .returned (.int .i64 (progShift p p (fromL 0 l))) ∧ Below w.heap.size w w' :=
  callsIn_wide.1 (shift_in a m cap l p w hI h1 hs hp hp2)

/-- The first edit ends at or behind n: then so do all. -/
theorem okGo_hi {n la lb : Int} : ∀ {l : List Ed}, okGo n la lb l = true → ∀ e ∈ l, lb ≤ e.lo ∧ e.lo ≤ e.hi
  | [], _, e, he => by simp at he
  | x :: r, h, e, he => by
    obtain ⟨h0, h1, h2, h3, h4, h5⟩ := okGo_cons h
    rcases List.mem_cons.1 he with rfl | he
    · exact ⟨h3, h1⟩
    · have := okGo_hi h5 e he
      exact ⟨by omega, this.2⟩
/-- Behind an edit that lies beyond p nothing turns. -/
theorem progShift_beyond {p n la lb : Int} (hp : p < lb) : ∀ {l : List Ed} (m t : Int), okGo n la lb l = true → progShift p t (fromL m l) = t
  | [], _, _, _ => rfl
  | x :: r, m, t, h => by
    obtain ⟨h0, h1, h2, h3, h4, h5⟩ := okGo_cons h
    simp only [fromL, progShift]
    rw [if_neg (by omega), if_neg (by omega)]
    exact progShift_beyond (by omega) _ _ h5
theorem shiftGo_beyond {p n la lb : Int} (hp : p < lb) : ∀ {l : List Ed} (m : Int), okGo n la lb l = true → shiftGo p m l = p + m
  | [], _, _ => rfl
  | x :: r, m, h => by
    obtain ⟨h0, h1, h2, h3, h4, h5⟩ := okGo_cons h
    simp only [shiftGo]
    rw [if_neg (by omega), if_neg (by omega)]
    exact shiftGo_beyond (by omega) _ h5
/-- The program's Shift is the reference's. -/
theorem progShift_eq {p n : Int} : ∀ {l : List Ed} {la lb : Int} (m : Int), okGo n la lb l = true → progShift p (p + m) (fromL m l) = shiftGo p m l
  | [], _, _, m, _ => rfl
  | x :: r, la, lb, m, h => by
    obtain ⟨h0, h1, h2, h3, h4, h5⟩ := okGo_cons h
    simp only [fromL, progShift, shiftGo]
    by_cases c1 : x.hi ≤ p
    · rw [if_pos c1, if_pos c1, show p + (x.lo + m - x.lo) + moreE x = p + (m + moreE x) by omega]
      exact progShift_eq _ h5
    · rw [if_neg c1, if_neg c1]
      by_cases c2 : x.lo ≤ p
      · rw [if_pos c2, if_pos c2]
      · rw [if_neg c2, if_neg c2, progShift_beyond (by omega) _ _ h5, shiftGo_beyond (by omega) _ h5]
end Go.Proofs.Ytfncmabjmlmcfaa
