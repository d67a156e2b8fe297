/-
  The program's Brackets: the paths of brackets, collected from the iterator. Its conditions: the value reads as a node, of at most 900000 nodes.
-/
import Derived.Test.YtacgmmpdichlmaaGreatM37
namespace Go.Proofs.YtacgmmpdichlmaaGreat
open Go.RowKit Go.Shelf
attribute [local go_sem] Oper.semAt_some

theorem wpListIn_app {F : Fence} {n : Nat} {P : Program} {tS ty : TypeId} {ops : Array Oper} {rest : List Oper} {o : Oper} {a : Act} {Q : Exit → Act → World → Prop} {w w' : World} {v x v' : Value} (hgd : o.guard = none) (s y : Operand)
    (ho : o.op = .call { callee := .builtin .append, args := #[s, y], argTypes := #[tS, tS] }) (ht : o.type = ty) (hs : a.eval s = v) (hx : a.eval y = x) (hr : (Builtin.append_ #[tS, tS] ty #[v, x]).run P w = .ok v' w')
    (h : wpListIn F n P ops Q rest (a.put o.dst v') w') : wpListIn F n P ops Q (o :: rest) a w := by
  refine wpListIn_plain hgd fun K hK => ?_
  unfold Oper.wpIn
  refine ⟨by simp [Oper.about, ho, resolve, Target.leads, Sem.run_pure], ?_⟩
  rw [Oper.semAt_plain F _ _ (by rw [ho]; intro c hc'; cases hc')]
  subst ht
  simp [execOp, ho, resolve, invoke, builtin, hs, hx, hr, Result.andThen]
  exact hK _ _ h

/-- The paths of a row that is made since block B; none lies in block b. -/
def PRow (B b : Nat) (v : Value) (ps : List (List Int)) (w : World) : Prop := ∃ xs, w.ownsRow B 25 1 v ps.length xs ∧ ∀ (k : Nat) (p : List Int), ps[k]? = some p → ∃ u, xs[k]? = some u ∧ IsPath w (fun x => Away B v w x ∧ x ≠ b) u p
theorem PRow.nil (B b : Nat) (w : World) : PRow B b (.slice none 0 0) [] w := ⟨[], World.ownsRow_nil _ _ _ _, fun k p h => by simp at h⟩
theorem PRow.form {B b : Nat} {v : Value} {ps : List (List Int)} {w : World} (h : PRow B b v ps w) : ∃ a c, v = .slice a ps.length c := by
  obtain ⟨xs, h1, _⟩ := h
  exact own_form h1
theorem PRow.held {B b : Nat} {v : Value} {ps : List (List Int)} {w : World} (h : PRow B b v ps w) : PHeld B v ps w := by
  obtain ⟨xs, h1, h2⟩ := h
  exact ⟨xs, h1, fun k p hp => by
    obtain ⟨u, hu, hu2⟩ := h2 k p hp
    exact ⟨u, hu, hu2.keep fun x hx => ⟨hx.1, rfl⟩⟩⟩
theorem own_records {w w' : World} {base size n : Nat} {e : TypeId} {v : Value} {xs : List Value} {row : Option Nat} (h : w.ownsRow base e size v n xs) (hg : w.grownBy w' row) (hr : ∀ r, row = some r → ∃ o : Obj, w.heap[r]? = some o ∧ o.isCells = false) : w'.ownsRow base e size v n xs := by
  refine ⟨h.1, ?_⟩
  rcases h.2 with hn | ⟨g, cap, cur, hv, hb, hgg, rest⟩
  · exact .inl hn
  · refine .inr ⟨g, cap, cur, hv, hb, (hg.block g (Array.getElem?_eq_some_iff.1 hgg).1 (fun e => ?_)).trans hgg, rest⟩
    obtain ⟨o, ho, hc⟩ := hr g e.symm
    rw [hgg] at ho
    cases ho
    cases hc
theorem PRow.records {B b : Nat} {v : Value} {ps : List (List Int)} {w w' : World} {row : Option Nat} (h : PRow B b v ps w) (hg : w.grownBy w' row) (hr : ∀ r, row = some r → ∃ o : Obj, w.heap[r]? = some o ∧ o.isCells = false) : PRow B b v ps w' := by
  obtain ⟨xs, h1, h2⟩ := h
  exact ⟨xs, own_records h1 hg hr, fun k p hp => by
    obtain ⟨u, hu, hu2⟩ := h2 k p hp
    exact ⟨u, hu, hu2.records hg hr fun x hx => ⟨⟨hx.1.1, Nat.lt_of_lt_of_le hx.1.2.1 hg.size, hx.1.2.2⟩, hx.2⟩⟩⟩
/-- What the loop that collects keeps: its variable in block b, the row of paths. -/
def RowI (w : World) (b : Nat) (pre : List (List Int)) (W : World) : Prop := ∃ v, Blk W b 41 #[v] ∧ PRow w.heap.size b v pre W ∧ Below w.heap.size w W
theorem RowI.records {w W W' : World} {b : Nat} {pre : List (List Int)} {row : Option Nat} (h : RowI w b pre W) (hg : W.grownBy W' row) (hr : ∀ r, row = some r → w.heap.size ≤ r ∧ ∃ o : Obj, W.heap[r]? = some o ∧ o.isCells = false) : RowI w b pre W' := by
  obtain ⟨v, h1, h2, h3⟩ := h
  refine ⟨v, h1.grown hg (fun e => ?_), h2.records hg (fun r e => (hr r e).2), h3.grown hg h3.size (fun r e => (hr r e).1)⟩
  obtain ⟨_, o, ho, hc⟩ := hr b e.symm
  unfold Blk at h1
  rw [h1] at ho
  cases ho
  cases hc
theorem RowI.own_ {w : World} {b B : Nat} (hB : w.heap.size ≤ B) : OwnFrom B (RowI w b) := fun _ _ _ _ hs hg hr => hs.records hg fun r e => ⟨Nat.le_trans hB (hr r e).1, (hr r e).2⟩
/-- A round: the path comes to the row. -/
theorem RowI.step {w W : World} {b : Nat} {pre : List (List Int)} {v u : Value} {p : List Int} (h1 : Blk W b 41 #[v]) (h2 : PRow w.heap.size b v pre W) (h3 : Below w.heap.size w W) (hb : w.heap.size ≤ b) (hu : IsPath W (Fq w.heap.size b W) u p) (hl : pre.length + 1 ≤ 1000000) :
    ∃ a c w', (Builtin.append_ #[41, 41] 41 #[v, .slice (some ⟨W.heap.size, 0, none⟩) 1 1]).run Tryz.prog (W.alloc (.cells #[u] 25)) = .ok (.slice a (pre.length + 1) c) w' ∧ w'.cell? ⟨b, 0, none⟩ = some v ∧ w'.frozen? ⟨b, 0, none⟩ = false ∧
      Kq w.heap.size b W (w'.setCell ⟨b, 0, none⟩ (.slice a (pre.length + 1) c)) ∧ RowI w b (pre ++ [p]) (w'.setCell ⟨b, 0, none⟩ (.slice a (pre.length + 1) c)) := by
  have hcell : W.cell? ⟨b, 0, none⟩ = some v := h1.one.1
  have hlb := h1.lt
  have hnown : v.ownBlock ≠ some b := by
    obtain ⟨xs, hx, _⟩ := h2
    exact own_blk_ne hx h1 (by decide)
  have hu' : ∀ x, Fq w.heap.size b W x → Away w.heap.size v W x ∧ x ≠ b := fun x hx => ⟨⟨hx.1, hx.2.1, fun e => hx.2.2 (Or.inr ⟨v, hcell, e⟩)⟩, fun e => hx.2.2 (Or.inl e)⟩
  have hone : u.oneCell' = true := by obtain ⟨a, c, rfl, _⟩ := hu; rfl
  obtain ⟨xs, hx, hps⟩ := h2
  have hbl := Blk.new W 25 #[u]
  obtain ⟨v', w', hr, hown, hg, hblk⟩ := app_run (ty := 41) Tryz.underlying41 infoPath rfl (by decide) (by decide) (hx.alloc (.cells #[u] 25)) W.heap.size 0 1 1 [u] rfl (fun j z hz => by rw [Nat.zero_add, hbl.cell j]; simpa using hz) (by simpa using hone) hl (by decide) (by simp; have := h3.size; omega)
  obtain ⟨a, c, rfl⟩ := own_form hown
  have hsz := hg.size
  simp at hsz
  have hbk : ∀ g, (Value.slice a (pre.length + 1) c).ownBlock = some g → v.ownBlock = some g ∨ W.heap.size ≤ g := fun g e => (hblk g e).imp id (fun h => by simp at h; omega)
  have hheap : ∀ k, k < W.heap.size → v.ownBlock ≠ some k → w'.heap[k]? = W.heap[k]? := fun k hk hne => (hg.block k (by simp; omega) (fun e => hne e.symm)).trans (Below.heap_alloc W _ k hk)
  have hb' : Blk w' b 41 #[v] := (hheap b hlb hnown).trans h1
  have hcell' : (w'.setCell ⟨b, 0, none⟩ (.slice a (pre.length + 1) c)).cell? ⟨b, 0, none⟩ = some (.slice a (pre.length + 1) c) := (hb'.set_ 0 (.slice a (pre.length + 1) c)).one.1
  have hnb : (Value.slice a (pre.length + 1) c).ownBlock ≠ some b := fun e => by
    rcases hbk b e with h | h
    · exact hnown h
    · omega
  have hset : ∀ k, k ≠ b → (w'.setCell ⟨b, 0, none⟩ (.slice a (pre.length + 1) c)).heap[k]? = w'.heap[k]? := fun k hk => Below.heap_setCell w' ⟨b, 0, none⟩ _ k (show k ≠ b from hk)
  have hrow : (w'.setCell ⟨b, 0, none⟩ (.slice a (pre.length + 1) c)).ownsRow w.heap.size 25 1 (.slice a (pre.length + 1) c) (pre.length + 1) (xs ++ [u]) := by
    refine ⟨hown.1, ?_⟩
    rcases hown.2 with hn | ⟨g, cap, cur, hv, hbb, hgg, rest⟩
    · exact .inl hn
    · exact .inr ⟨g, cap, cur, hv, hbb, (hset g (fun e => hnb (by rw [hv, ← e]; rfl))).trans hgg, rest⟩
  have hbel : Below w.heap.size W w' := ((Below.refl _ W).alloc h3.size _).grown hg (by simp; have := h3.size; omega) (fun r e => (hx.lt r e).1)
  have hkeep : ∀ k, Away w.heap.size v W k ∧ k ≠ b → (Away w.heap.size (Value.slice a (pre.length + 1) c) (w'.setCell ⟨b, 0, none⟩ (.slice a (pre.length + 1) c)) k ∧ k ≠ b) ∧ (w'.setCell ⟨b, 0, none⟩ (.slice a (pre.length + 1) c)).heap[k]? = W.heap[k]? := fun k hk => by
    refine ⟨⟨⟨hk.1.1, by simp; have := hk.1.2.1; omega, fun e => ?_⟩, hk.2⟩, (hset k hk.2).trans (hheap k hk.1.2.1 hk.1.2.2)⟩
    rcases hbk k e with h | h
    · exact hk.1.2.2 h
    · have := hk.1.2.1
      omega
  refine ⟨a, c, w', hr, hb'.one.1, hb'.one.2, ⟨fun k hk hn => (hset k (fun e => hn (Or.inl e))).trans (hheap k hk (fun e => hn (Or.inr ⟨v, hcell, e⟩))), fun k hk => ?_, hbel.setCell hb _, ⟨by simp; omega, fun k o hk hc => ?_⟩, fun _ k hk => ?_⟩, ⟨_, hb'.set_ 0 _, ⟨xs ++ [u], by rw [List.length_append]; exact hrow, fun k q hq => ?_⟩, (h3.trans hbel).setCell hb _⟩⟩
  · rcases hk with rfl | ⟨z, hz, hzo⟩
    · exact Or.inl (Or.inl rfl)
    · rw [hcell'] at hz
      cases hz
      rcases hbk k hzo with h | h
      · exact Or.inl (Or.inr ⟨v, hcell, h⟩)
      · exact Or.inr h
  · have hkb : k ≠ b := by
      rintro rfl
      unfold Blk at h1
      rw [h1] at hk
      cases hk
      cases hc
    refine (hset k hkb).trans ((hheap k (Array.getElem?_eq_some_iff.1 hk).1 (fun e => ?_)).trans hk)
    rcases hx.2 with ⟨rfl, _⟩ | ⟨g, cap, cur, rfl, _, hgg, _⟩
    · simp [Value.ownBlock] at e
    · simp only [Value.ownBlock, Option.some.injEq] at e
      subst e
      rw [hgg] at hk
      cases hk
      cases hc
  · rcases hk with rfl | ⟨z, hz, hzo⟩
    · simp; omega
    · rw [hcell'] at hz
      cases hz
      have := (hown.lt k hzo).2
      simpa using this
  · have hxl : xs.length = pre.length := by have := hx.1; omega
    rcases Nat.lt_or_ge k pre.length with hlt | hge
    · rw [List.getElem?_append_left hlt] at hq
      obtain ⟨u', hu2, hu3⟩ := hps k q hq
      exact ⟨u', by rw [List.getElem?_append_left (by omega)]; exact hu2, hu3.keep hkeep⟩
    · have hk : k = pre.length := by
        have := (List.getElem?_eq_some_iff.1 hq).1
        simp at this
        omega
      subst hk
      obtain rfl : p = q := by simpa using hq
      exact ⟨u, by rw [List.getElem?_append_right (by omega), hxl, Nat.sub_self]; rfl, hu.keep fun x hx => hkeep x (hu' x hx)⟩
theorem bracksN_len (d : Nd) : (bracksN d).length ≤ d.count := by
  have := count_bare d
  omega

set_option maxRecDepth 100000 in
set_option maxHeartbeats 4000000 in
theorem appendSeq_any {d : Nd} {N : Nat} {k : Int} {s : ByteArray} {y : Option Addr} {m c : Nat} {w : World} (hN : Blk w N 24 #[.int .i64 k, .string s, .slice y m c]) (hM : Blk w (N + 1) 25 #[.slice none 0 0]) (hD : Is w d (.agg #[.int .i64 k, .string s, .slice y m c])) (hcnt : d.count ≤ 900000) :
    Calls Tryz.prog 50 #[.slice none 0 0, .func (.func 51) #[] #[.pointer (some ⟨N, 0, none⟩), .pointer (some ⟨N + 1, 0, none⟩)]] w (PathsP w (bracksN d)) := by
  have hLL : eachL [] d = bracksN d := by
    rw [eachL]
    simp
  have hbl := bracksN_len d
  have HN := hide hN
  have HM := hide hM
  have HD := hide hD
  refine (callsIn_wide (n := 0)).1 ?_
  refine callsIn_of_wp_marks Tryz.func50 rfl trivial ?_ rfl
  simp only [Tryz.ntmps50, List.size_toArray, List.length_cons, List.length_nil, Nat.reduceAdd, Nat.reduceSub, Array.replicate_succ, Array.replicate_zero, List.push_toArray, List.append_toArray, List.nil_append, List.cons_append]
  clear hN hM hD
  gi_wp2
  obtain ⟨W0, hW0⟩ : ∃ W0, w.alloc (.cells #[.slice none 0 0] 41) = W0 := ⟨_, rfl⟩
  have hb0 : Below w.heap.size w W0 := hW0 ▸ (Below.refl _ w).alloc (Nat.le_refl _) _
  have hB0 : Blk W0 w.heap.size 41 #[.slice none 0 0] := hW0 ▸ Blk.new w _ _
  have hlN := HN.out.lt
  have hlM := HM.out.lt
  have hl0 : w.heap.size < W0.heap.size := hB0.lt
  rw [hW0]
  clear hW0
  have hIH : ∀ Wx, Below W0.heap.size W0 Wx → SeqPath Tryz.prog 51 N (N + 1) w.heap.size w.heap.size (bracksN d) Wx := fun Wx hx => by
    have hc : Wx.cell? ⟨w.heap.size, 0, none⟩ = some (.slice none 0 0) := (hB0.below hx hl0).one.1
    have hno : ∀ g, Ow w.heap.size Wx g → g = w.heap.size := fun g e => by
      rcases e with e | ⟨v, hv, ho⟩
      · exact e
      · rw [hc] at hv
        cases hv
        simp [Value.ownBlock] at ho
    have hz := hx.size
    have hb : Below w.heap.size w Wx := hb0.trans (hx.mono hb0.size)
    rw [← hLL]
    refine eachIt_any d w.heap.size w.heap.size N (N + 1) k s y m c none 0 [] Wx ⟨HN.out.below hb hlN, HM.out.below hb hlM, IsNd.keep (fun g hg => ⟨hg, hb.block g hg⟩) _ _ HD.out, ⟨none, 0, rfl, ⟨Nat.zero_le _, Nat.le_refl _⟩, fun h => absurd rfl h⟩, fun e => by have := hno _ e; omega, fun e => by have := hno _ e; omega, fun g e => by have := hno g e; omega⟩ (Nat.le_refl _) (by omega) (by simpa using hcnt)
  have HIH := hide hIH
  have HI0 := hide (show RowI w w.heap.size [] W0 from ⟨_, hB0, PRow.nil _ _ _, hb0⟩)
  clear hIH hB0
  refine range_path (gf := 51) (Bn := N) (Bp := N + 1) (n₀ := w.heap.size) (b := w.heap.size) (L := bracksN d) (pre0 := []) rfl (enters_of Tryz.func51 (by kernel_rfl) rfl) hb0.size hl0 HIH.out
    (RowI w w.heap.size) (fun _ _ => False) (RowI.own_ hb0.size) (fun _ _ _ _ hs _ _ => hs) HI0.out
    (fun v => { tmps := #[.slice none 0 0, .func (.func 51) #[] #[.pointer (some ⟨N, 0, none⟩), .pointer (some ⟨N + 1, 0, none⟩)], .pointer (some ⟨w.heap.size, 0, none⟩), undef, .slice none 0 0, v, .func (.func 51) #[] #[.pointer (some ⟨N, 0, none⟩), .pointer (some ⟨N + 1, 0, none⟩)], v, undef, undef, undef, undef, undef], defers := [] })
    ?assign ?body ?done ?stop
  case assign =>
    intro l2 a2 m2 c2 Wx K hK
    gi_wp2
    exact hK
  case body =>
    rintro l2 pre x a2 m2 c2 Wx hszx ⟨v, h1, h2, h3⟩ hpx hpre
    have hlen : pre.length + 1 ≤ 1000000 := by
      have := hpre.length_le
      simp at this
      omega
    obtain ⟨a3, c3, w3, hr3, e0, e1, hk3, hi3⟩ := RowI.step h1 h2 h3 (Nat.le_refl _) (hpx.keep fun g hg => ⟨⟨by have := hg.1; have := hb0.size; omega, hg.2⟩, rfl⟩) hlen
    have p0 := h1.one
    obtain ⟨va, vc, rfl⟩ := h2.form
    have HK3 := hide hk3
    have HI3 := hide hi3
    clear h1 h2 hk3 hi3 hpx
    gi_wp2_with (gi_at_builtin; refine wpListIn_app rfl _ _ (by rfl) (by rfl) (by rfl) (by rfl) hr3 ?_)
    exact ⟨HK3.out, HI3.out⟩
  case done =>
    rintro D Wx hD hDx hI hdef hkx
    obtain ⟨v, h1, h2, h3⟩ := id hI
    obtain ⟨va, vc, rfl⟩ := h2.form
    have p0 := h1.one
    have HI := hide hI
    have HDEF := hide hdef
    clear h1 h2 hI hdef
    gi_wp2
    refine ⟨by simp, .inl ⟨_, _, rfl, run_takeDeferred HDEF.out, ?_⟩⟩
    refine ⟨_, results_tmp rfl _ _ _, va, vc, rfl, ?_⟩
    obtain ⟨v, h1, h2, h3⟩ := HI.out.records (grownBy_putObj' Wx D (.deferred none)) (fun r e => by cases e; exact ⟨by have := hb0.size; omega, _, HDEF.out, rfl⟩)
    have e1 := h1.one.1
    have e2 : (Wx.putObj D (.deferred none)).cell? ⟨w.heap.size, 0, none⟩ = Wx.cell? ⟨w.heap.size, 0, none⟩ := World.cell?_of_block (w := Wx) (a := ⟨w.heap.size, 0, none⟩) (World.putObj_heap_other (show w.heap.size ≠ D by omega))
    rw [e2, p0.1] at e1
    cases e1
    exact ⟨h2.held.out, h3⟩
  case stop =>
    rintro D pre Wx hD hDx h
    exact h.elim
theorem collect_any {d : Nd} {N : Nat} {k : Int} {s : ByteArray} {y : Option Addr} {m c : Nat} {w : World} (hN : Blk w N 24 #[.int .i64 k, .string s, .slice y m c]) (hM : Blk w (N + 1) 25 #[.slice none 0 0]) (hD : Is w d (.agg #[.int .i64 k, .string s, .slice y m c])) (hcnt : d.count ≤ 900000) :
    Calls Tryz.prog 39 #[.func (.func 51) #[] #[.pointer (some ⟨N, 0, none⟩), .pointer (some ⟨N + 1, 0, none⟩)]] w (PathsP w (bracksN d)) := by
  have HC := hide (appendSeq_any hN hM hD hcnt)
  clear hN hM hD
  go_enter Tryz.func39, Tryz.ntmps39
  go_wp2_with fail
  refine HC.out.mono ?_
  rintro e w1 ⟨a, c, rfl, h1, h2⟩
  go_wp2_with fail
  go_ret
  exact ⟨a, c, rfl, h1, h2⟩
theorem brackets_any {d : Nd} {v : Value} {w : World} (hD : Is w d v) (hcnt : d.count ≤ 900000) : Calls Tryz.prog 20 #[v] w (PathsP w (bracksN d)) := by
  obtain ⟨k, s, y, m, c, rfl⟩ := hD.form
  obtain ⟨W1, hW1⟩ : ∃ W1, w.alloc (.cells #[.int .i64 k, .string s, .slice y m c] 24) = W1 := ⟨_, rfl⟩
  have hb1 : Below w.heap.size w W1 := hW1 ▸ (Below.refl _ w).alloc (Nat.le_refl _) _
  obtain ⟨W3, hW3⟩ : ∃ W3, (W1.alloc (.cells #[.int .i64 k, .string s, .slice y m c] 24)).alloc (.cells #[.slice none 0 0] 25) = W3 := ⟨_, rfl⟩
  have hb3 : Below W1.heap.size W1 W3 := hW3 ▸ ((Below.refl _ W1).alloc (Nat.le_refl _) _).alloc (by simp) _
  have hB : Below w.heap.size w W3 := hb1.trans (hb3.mono hb1.size)
  have hN : Blk W3 W1.heap.size 24 #[.int .i64 k, .string s, .slice y m c] := hW3 ▸ (Blk.new W1 _ _).alloc _
  have hM : Blk W3 (W1.heap.size + 1) 25 #[.slice none 0 0] := by
    have := Blk.new (W1.alloc (.cells #[.int .i64 k, .string s, .slice y m c] 24)) 25 #[.slice none 0 0]
    rw [World.size_alloc, hW3] at this
    exact this
  have HC := hide (collect_any hN hM (hD.below hB) hcnt)
  have p0 := (show Blk W1 w.heap.size 24 #[.int .i64 k, .string s, .slice y m c] from hW1 ▸ Blk.new w _ _).see3
  clear hN hM hD
  go_enter Tryz.func20, Tryz.ntmps20
  go_wp2_with fail
  refine (each_any k s y m c none 0 0 _).mono ?_
  rintro e w1 ⟨rfl, rfl⟩
  rw [hW3]
  clear hW1 hW3 p0
  go_wp2_with fail
  refine HC.out.mono ?_
  rintro e w4 ⟨a, c, rfl, h1, h2⟩
  go_wp2_with fail
  go_ret
  exact ⟨a, c, rfl, h1.keep fun g hg => ⟨⟨Nat.le_trans hB.size hg.1, hg.2⟩, rfl⟩, hB.trans (h2.mono hB.size)⟩
end Go.Proofs.YtacgmmpdichlmaaGreat
