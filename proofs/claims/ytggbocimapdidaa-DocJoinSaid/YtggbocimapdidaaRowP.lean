/-
  The program's Row, with slices.Clone and slices.DeleteFunc at documents.
  Its conditions: the slice reads as documents, of which there are at most 1000000.
-/
import Derived.Test.YtggbocimapdidaaIndex
namespace Go.Proofs.Ytggbocimapdidaa
open Go.RowKit

theorem IsDcs.keepAt {w w' : World} {F F' : Nat → Prop} (hF : ∀ b, F b → F' b ∧ w'.heap[b]? = w.heap[b]?) {b : Nat} (hb : w'.heap[b]? = w.heap[b]?) : ∀ (ks : Dcs) (o : Nat), IsDcs w F b o ks → IsDcs w' F' b o ks
  | .nil, o, _ => by rw [IsDcs]; trivial
  | .cons d r, o, h => by
    rw [IsDcs] at h ⊢
    obtain ⟨⟨c0, c1, c2, c3, h0, h1, h2, h3, h4⟩, h5⟩ := h
    have hc : ∀ i, w'.cell? ⟨b, i, none⟩ = w.cell? ⟨b, i, none⟩ := fun i => World.cell?_of_block (w := w) hb
    exact ⟨⟨c0, c1, c2, c3, by rw [hc, h0], by rw [hc, h1], by rw [hc, h2], by rw [hc, h3], IsDc.keep hF d _ h4⟩, IsDcs.keepAt hF hb r (o + 4) h5⟩
/-- The slice reads as the documents, whose Kids lie in blocks of F; its own row lies anywhere. -/
def InSl (w : World) (F : Nat → Prop) (ds : List Dc) (v : Value) : Prop :=
  ∃ (a : Option Addr) (cap : Nat), v = .slice a ds.length cap ∧ ds.length ≤ maxLen ∧ (ds.length ≠ 0 → ∃ b o, a = some ⟨b, o, none⟩ ∧ b < w.heap.size ∧ IsDcs w F b o (Dcs.ofL ds))
theorem IsSl.inSl {w : World} {F : Nat → Prop} {ds : List Dc} {v : Value} (h : IsSl w F ds v) (hF : ∀ b, F b → b < w.heap.size) : InSl w F ds v := by
  obtain ⟨a, cap, h0, h1, h2⟩ := h
  refine ⟨a, cap, h0, h1, fun hne => ?_⟩
  obtain ⟨b, o, ha, hb, hd⟩ := h2 hne
  exact ⟨b, o, ha, hF b hb, hd⟩
theorem InSl.below {w w' : World} {F : Nat → Prop} {ds : List Dc} {v : Value} (h : InSl w F ds v) (hF : ∀ b, F b → b < w.heap.size) (hb : Below w.heap.size w w') : InSl w' F ds v := by
  obtain ⟨a, cap, h0, h1, h2⟩ := h
  refine ⟨a, cap, h0, h1, fun hne => ?_⟩
  obtain ⟨b, o, ha, hlt, hd⟩ := h2 hne
  exact ⟨b, o, ha, Nat.lt_of_lt_of_le hlt hb.size, IsDcs.keepAt (fun x hx => ⟨hx, hb.block x (hF x hx)⟩) (hb.block b hlt) _ o hd⟩

/-- A row of the call's own, that reads as documents. -/
def OwnSl (w : World) (base : Nat) (F : Nat → Prop) (ds : List Dc) (v : Value) : Prop := ∃ xs, w.ownsRow base 25 4 v ds.length xs ∧ IsRow w F xs ds
/-- The call hands back a row of its own. -/
def OwnPost (w : World) (F : Nat → Prop) (ds : List Dc) (e : Ending) (w' : World) : Prop :=
  ∃ v, e = .returned v ∧ OwnSl w' w.heap.size F ds v ∧ Below w.heap.size w w'

set_option maxHeartbeats 1000000 in
theorem clone_any (F : Nat → Prop) (ds : List Dc) (v : Value) (w : World) (hF : ∀ b, F b → b < w.heap.size) (h : InSl w F ds v) (hlen : ds.length ≤ 1000000) (hne : ds.length ≠ 0) : Calls Try.prog 32 #[v] w (OwnPost w F ds) := by
  obtain ⟨a, cap, rfl, hl, hk⟩ := h
  simp only [maxLen] at hl
  obtain ⟨i0, hi, hz0, hz1, hz2⟩ := info_parts info25
  obtain ⟨b, o, rfl, hFb, hkk⟩ := hk hne
  obtain ⟨xs, hrow, hc⟩ := hkk.row
  rw [Dcs.toL_ofL] at hrow
  clear hk hkk
  have hq := Lib.run_eql_slice_nil (P := Try.prog) w 23 25 (some ⟨b, o, none⟩) ds.length cap 0 0 Try.underlying23
  have hc1 : ∀ j u, xs[j]? = some u → (w.alloc (.cells #[] 25)).cell? ((⟨b, o, none⟩ : Addr).add j) = some u := fun j u hu => by
    rw [Addr.add_lit]
    exact Lib.cell?_alloc_some _ (hc j u hu)
  have HC := hide hc1
  have HL := hide hrow.length
  clear hc hc1
  go_enter Try.func32, Try.ntmps32
  go_wp2_with (at_builtin; refine wpList_append_own _ rfl (.tmp 5) (.tmp 6) 23 rfl w.heap.size 25 i0 _ 4 56 Try.underlying23 hi hz0 hz1 hz2 rfl (by decide) _ 0 _ rfl (World.ownsRow_made w #[] 0 (Nat.le_refl _) (Nat.zero_le _) rfl) ⟨b, o, none⟩ ds.length cap xs rfl HL.out HC.out hrow.oneCell ?c3 ?c4 ?c5 ?_)
  case c3 => simp only [maxLen]; omega
  case c4 => omega
  case c5 => simp
  intro v' w1 hown' hgrow _
  have hb1 : Below w.heap.size w w1 := ((Below.refl _ w).alloc (Nat.le_refl _) _).grown hgrow (by simp) (fun r hr => by simp only [Value.ownBlock, Option.some.injEq] at hr; omega)
  clear hgrow
  go_wp2_with fail
  go_ret
  exact ⟨v', rfl, ⟨xs, hown', hrow.keep (fun x hx => ⟨hx, hb1.block x (hF x hx)⟩)⟩, hb1⟩

theorem clone_nil (F : Nat → Prop) (w : World) : Calls Try.prog 32 #[.slice none 0 0] w (OwnPost w F []) := by
  have hq := Lib.run_eql_slice_nil (P := Try.prog) w 23 25 none 0 0 0 0 Try.underlying23
  go_enter Try.func32, Try.ntmps32
  go_wp2_with fail
  go_ret
  exact ⟨_, rfl, ⟨[], World.ownsRow_nil _ _ _ _, IsRow.nil⟩, Below.refl _ _⟩

theorem empty_any (d : Dc) (v : Value) (w : World) (h : IsDc w (· < w.heap.size) d v) : Calls Try.prog 33 #[v] w (Says (!d.full) w) := by
  obtain ⟨k, s, n, ks⟩ := d
  obtain ⟨x, rfl, -⟩ := h.split
  have hb : Below w.heap.size w (w.alloc (.cells #[.int .i64 k, .string s, .int .i64 n, x] 25)) := (Below.refl _ w).alloc (Nat.le_refl _) _
  unfold Says
  rw [show (Dc.mk k s n ks).full = !decide (k = 0) from rfl, Bool.not_not]
  by_cases h0 : k = 0
  · subst h0
    go_enter Try.func33, Try.ntmps33
    go_wp2_with fail
    go_ret
    exact ⟨rfl, hb⟩
  · have e0 : (k == 0) = false := beq_eq_false_iff_ne.2 h0
    rw [decide_eq_false h0]
    clear h0
    go_enter Try.func33, Try.ntmps33
    go_wp2_with fail
    go_ret
    exact ⟨rfl, hb⟩

/-- Four cells are stored from o on. -/
def putAt (w : World) (g o : Nat) (x y z u : Value) : World := (((w.setCell ⟨g, o, none⟩ x).setCell ⟨g, o + 1, none⟩ y).setCell ⟨g, o + 2, none⟩ z).setCell ⟨g, o + 3, none⟩ u
def set4 (xs : List Value) (o : Nat) (x y z u : Value) : List Value := (((xs.set o x).set (o + 1) y).set (o + 2) z).set (o + 3) u
theorem own_putAt {w : World} {base g n cap : Nat} {xs : List Value} (h : w.ownsRow base 25 4 (.slice (some ⟨g, 0, none⟩) n cap) n xs) (o : Nat) (x y z u : Value) :
    (putAt w g o x y z u).ownsRow base 25 4 (.slice (some ⟨g, 0, none⟩) n cap) n (set4 xs o x y z u) :=
  ((((h.stored o x).1.stored (o + 1) y).1.stored (o + 2) z).1.stored (o + 3) u).1
theorem below_putAt {B : Nat} {w W : World} (h : Below B w W) {g : Nat} (hg : B ≤ g) (o : Nat) (x y z u : Value) : Below B w (putAt W g o x y z u) :=
  (((h.setCell (p := ⟨g, o, none⟩) hg x).setCell (p := ⟨g, o + 1, none⟩) hg y).setCell (p := ⟨g, o + 2, none⟩) hg z).setCell (p := ⟨g, o + 3, none⟩) hg u
theorem heap_putAt (w : World) {g b : Nat} (h : b ≠ g) (o : Nat) (x y z u : Value) : (putAt w g o x y z u).heap[b]? = w.heap[b]? :=
  (Below.heap_setCell _ ⟨g, o + 3, none⟩ u b h).trans ((Below.heap_setCell _ ⟨g, o + 2, none⟩ z b h).trans ((Below.heap_setCell _ ⟨g, o + 1, none⟩ y b h).trans (Below.heap_setCell _ ⟨g, o, none⟩ x b h)))
theorem IsRow.set4 {w : World} {F : Nat → Prop} {d : Dc} {c0 c1 c2 c3 : Value} (hd : IsDc w F d (.agg #[c0, c1, c2, c3])) : ∀ {ds : List Dc} {xs : List Value} (k : Nat), IsRow w F xs ds → IsRow w F (set4 xs (k * 4) c0 c1 c2 c3) (ds.set k d)
  | [], xs, k, h => by rw [h.out_nil]; simpa [Ytggbocimapdidaa.set4] using IsRow.nil
  | x :: ds, xs, 0, h => by
    obtain ⟨e0, e1, e2, e3, ys, rfl, _, h2⟩ := h.out
    simpa [Ytggbocimapdidaa.set4] using IsRow.cons.2 ⟨hd, h2⟩
  | x :: ds, xs, k + 1, h => by
    obtain ⟨e0, e1, e2, e3, ys, rfl, h1, h2⟩ := h.out
    have ih := IsRow.set4 hd k h2
    unfold Ytggbocimapdidaa.set4 at ih ⊢
    rw [show (k + 1) * 4 = k * 4 + 1 + 1 + 1 + 1 by omega, show k * 4 + 1 + 1 + 1 + 1 + 1 = k * 4 + 1 + 1 + 1 + 1 + 1 from rfl, show k * 4 + 1 + 1 + 1 + 1 + 2 = k * 4 + 2 + 1 + 1 + 1 + 1 by omega, show k * 4 + 1 + 1 + 1 + 1 + 3 = k * 4 + 3 + 1 + 1 + 1 + 1 by omega]
    simp only [List.set_cons_succ]
    exact IsRow.cons.2 ⟨h1, ih⟩

/-- clear(s[i:]), where s owns its row. -/
theorem run_clear4 {w : World} {base g n cap i : Nat} {xs : List Value} (h : w.ownsRow base 25 4 (.slice (some ⟨g, 0, none⟩) n cap) n xs) (hi : i < n) (c : Nat) :
    ∃ w', (∀ ty, (Builtin.clear_ #[23] ty #[.slice (some ⟨g, i * 4, none⟩) (n - i) c]).run Try.prog w = .ok (.tuple #[]) w') ∧ w'.ownsRow base 25 4 (.slice (some ⟨g, 0, none⟩) i cap) i (xs.take (i * 4)) ∧ w.grownBy w' (some g) := by
  rcases h.2 with ⟨h', _⟩ | ⟨g', cap', cur, h', hb, hg, hnc, hcm, hcs, htake⟩
  · simp at h'
  simp only [Value.slice.injEq, Option.some.injEq, Addr.mk.injEq, and_true, true_and] at h'
  obtain ⟨rfl, rfl⟩ := h'
  obtain ⟨Z, hZ⟩ : ∃ Z, Z = (Builtin.zeroCells #[.int .i64 0, .string ⟨#[]⟩, .int .i64 0, .slice none 0 0] (n - i)).toList := ⟨_, rfl⟩
  have hZl : Z.length = (n - i) * 4 := by rw [hZ]; simp [size_zeroCells]
  have hZ1 : ∀ v ∈ Z, v.oneCell' = true := by
    intro v hv
    rw [hZ] at hv
    simp only [Builtin.zeroCells, Array.toList_map, List.mem_map] at hv
    obtain ⟨j, -, rfl⟩ := hv
    have h4 : j % 4 = 0 ∨ j % 4 = 1 ∨ j % 4 = 2 ∨ j % 4 = 3 := by omega
    show (#[Value.int .i64 0, .string ⟨#[]⟩, .int .i64 0, .slice none 0 0][j % 4]!).oneCell' = true
    rcases h4 with h4 | h4 | h4 | h4 <;> rw [h4] <;> rfl
  have hst := run_storeCells_at Try.prog g (i * 4) 25 Z 0 cur w hg (by rw [hZl, hcs]; omega) hZ1
  simp only [Nat.add_zero] at hst
  obtain ⟨m, hm⟩ : ∃ m, n - i = m + 1 := ⟨n - i - 1, by omega⟩
  refine ⟨w.setRow g (cur.toList.take (i * 4) ++ Z ++ cur.toList.drop (i * 4 + Z.length)).toArray, fun ty => ?_, ?_, ?_⟩
  · have hzv := Try.zeroValue25 w
    have hcells : (Value.agg #[.int .i64 0, .string ⟨#[]⟩, .int .i64 0, .slice none 0 0]).cells = #[.int .i64 0, .string ⟨#[]⟩, .int .i64 0, .slice none 0 0] := by kernel_rfl
    rw [hm] at hZ ⊢
    rw [hZ] at hst ⊢
    rw [← hcells] at hst ⊢
    simp only [Builtin.clear_, Sem.run_bind, run_underlying Try.underlying23, hzv, Result.andThen_ok]
    simp [hst]
  · refine ⟨by rw [List.length_take, h.1]; omega, .inr ⟨g, cap, _, rfl, hb, setRow_heap w g cur _ 25 _ hg, by omega, hcm, ?_, ?_⟩⟩
    · simp only [List.size_toArray, List.length_append, List.length_take, List.length_drop, Array.length_toList, hZl, hcs]
      omega
    · rw [← htake, List.take_take, Nat.min_eq_left (by omega), List.append_assoc, List.take_append_of_le_length (by simp [hcs]; omega), List.take_take, Nat.min_self]
  · exact ⟨rfl, rfl, rfl, by simp [World.setRow], fun k _ hk => setRow_other w g k _ (fun e => hk (by simp [e]))⟩

def emptyB (d : Dc) : Bool := !d.full
theorem idx_facts : ∀ (ds : List Dc) (q : Nat), (idxL emptyB q ds = -1 ∧ ds.filter Dc.full = ds) ∨ ∃ k, k < ds.length ∧ idxL emptyB q ds = (q + k : Nat) ∧ (ds.take (k + 1)).filter Dc.full = ds.take k
  | [], q => Or.inl ⟨rfl, rfl⟩
  | d :: ds, q => by
    rw [idxL]
    cases h : d.full with
    | true =>
      rw [emptyB, h]
      rcases idx_facts ds (q + 1) with ⟨h1, h2⟩ | ⟨k, h1, h2, h3⟩
      · exact Or.inl ⟨by simpa using h1, by rw [List.filter_cons, h, h2]; rfl⟩
      · refine Or.inr ⟨k + 1, by simpa using h1, ?_, ?_⟩
        · rw [if_neg (by simp), h2]; congr 1; omega
        · rw [List.take_succ_cons, List.take_succ_cons, List.filter_cons, h, h3]; rfl
    | false =>
      refine Or.inr ⟨0, by simp, by rw [emptyB, h]; simp, ?_⟩
      simp [h]

theorem del_keep {ds es : List Dc} {i j : Nat} (hij : i < j) (hj : j < ds.length) (hl : es.length = ds.length) (h1 : es.take i = (ds.take j).filter Dc.full) (h2 : es.drop j = ds.drop j) (hf : ds[j].full = true) :
    (es.set i ds[j]).take (i + 1) = (ds.take (j + 1)).filter Dc.full ∧ (es.set i ds[j]).drop (j + 1) = ds.drop (j + 1) := by
  constructor
  · rw [take_filter_yes hj hf, ← h1, List.take_set, List.take_succ_eq_append_getElem (by omega), List.set_append_right _ _ (by rw [List.length_take]; omega)]
    simp [List.length_take, Nat.min_eq_left (show i ≤ es.length by omega)]
  · rw [List.drop_set_of_lt (by omega)]
    have := congrArg (List.drop 1) h2
    simpa [List.drop_drop] using this
theorem del_skip {ds es : List Dc} {i j : Nat} (hj : j < ds.length) (h1 : es.take i = (ds.take j).filter Dc.full) (h2 : es.drop j = ds.drop j) (hf : ds[j].full = false) :
    es.take i = (ds.take (j + 1)).filter Dc.full ∧ es.drop (j + 1) = ds.drop (j + 1) := by
  refine ⟨by rw [take_filter_no hj hf, h1], ?_⟩
  have := congrArg (List.drop 1) h2
  simpa [List.drop_drop] using this
theorem del_elem {ds es : List Dc} {j : Nat} (hj : j < ds.length) (hl : es.length = ds.length) (h2 : es.drop j = ds.drop j) : es[j]? = some ds[j] := by
  have := congrArg (fun l => l[0]?) h2
  simpa [List.getElem?_drop, hj] using this

theorem own_below {w w' : World} {base size n : Nat} {e : TypeId} {v : Value} {xs : List Value} (h : w.ownsRow base e size v n xs) (hb : Below w.heap.size w w') : w'.ownsRow base e size v n xs := by
  refine ⟨h.1, ?_⟩
  rcases h.2 with hn | ⟨g, cap, cur, hv, hb', hgg, rest⟩
  · exact .inl hn
  · exact .inr ⟨g, cap, cur, hv, hb', (hb.block g (Array.getElem?_eq_some_iff.1 hgg).1).trans hgg, rest⟩
def DelPost (w : World) (base : Nat) (F : Nat → Prop) (ds : List Dc) (e : Ending) (w' : World) : Prop := ∃ v, e = .returned v ∧ OwnSl w' base F ds v ∧ Below base w w'

set_option maxHeartbeats 2000000 in
theorem delete_any (F : Nat → Prop) (base : Nat) (ds : List Dc) (v : Value) (w : World) (hF : ∀ b, F b → b < base) (hbase : base ≤ w.heap.size) (h : OwnSl w base F ds v) (hlen : ds.length ≤ 1000000) :
    Calls Try.prog 31 #[v, .func (.func 33) #[] #[]] w (DelPost w base F (ds.filter Dc.full)) := by
  obtain ⟨xs, hown, hrow⟩ := h
  have HX := hide (index_any 33 (Or.inl rfl) emptyB (· < w.heap.size) ds v w (fun _ h => h) (IsSl.of_own hown (hrow.keep (fun b hb => ⟨Nat.lt_of_lt_of_le (hF b hb) hbase, rfl⟩)) (fun g e => (hown.lt g e).2)) (fun d _ v w h => empty_any d v w h))
  rcases idx_facts ds 0 with ⟨h1, h2⟩ | ⟨k, hk, h1, h2⟩
  · rw [h1] at HX
    rw [h2]
    obtain ⟨a, c, rfl⟩ := own_form hown
    have HO := hide hown
    clear hown h1 h2
    go_enter Try.func31, Try.ntmps31
    go_wp2_with fail
    refine (unhide HX).mono ?_
    rintro e w1 ⟨rfl, hb⟩
    go_wp2_with fail
    go_ret
    exact ⟨_, rfl, ⟨xs, own_below HO.out hb, hrow.keep (fun b hb' => ⟨hb', hb.block b (Nat.lt_of_lt_of_le (hF b hb') hbase)⟩)⟩, hb.mono hbase⟩
  · rw [h1] at HX
    simp only [Nat.zero_add] at HX
    rcases hown.2 with ⟨_, hn⟩ | ⟨g, cap, cur, rfl, hg, hgg, hnc, hcm, hz1, hz2⟩
    · omega
    clear hgg h1 hz1 hz2 cur
    simp only [maxLen] at hcm
    have H2 := hide h2
    have HO := hide hown
    clear h2 hown
    have hdrop : ds.drop (k + 1) = ds.drop (k + 1) := rfl
    go_enter Try.func31, Try.ntmps31
    go_wp2_with fail
    refine (unhide HX).mono ?_
    rintro e w1 ⟨rfl, hb0⟩
    have hne : ((k : Int) == -1) = false := beq_eq_false_iff_ne.2 (by omega)
    go_wp2_with fail
    go_loopw [5, 6] (fun vi vj wr => ∃ (i j : Nat) (ys : List Value) (es : List Dc), vi = .int .i64 i ∧ vj = .int .i64 j ∧ i < j ∧ j ≤ ds.length ∧ wr.ownsRow base 25 4 (.slice (some ⟨g, 0, none⟩) ds.length cap) ds.length ys ∧ IsRow w F ys es ∧ Below base w wr ∧ es.length = ds.length ∧ es.take i = (ds.take j).filter Dc.full ∧ es.drop j = ds.drop j) (fun _ vj _ => ds.length - (intOf vj).toNat)
    case atStart => exact ⟨k, k + 1, xs, ds, rfl, by go_num, by omega, by omega, own_below HO.out hb0, hrow, hb0.mono hbase, rfl, H2.out.symm, rfl⟩
    case round =>
      clear hrow HO HX H2 hdrop hne
      obtain ⟨i, j, ys, es, rfl, rfl, hij, hj, hown, hrow, hb, hel, he1, he2⟩ := hrel
      have HO := hide hown
      have HE1 := hide he1
      have HE2 := hide he2
      have HEL := hide hel
      by_cases hlt : j < ds.length
      · have hej := del_elem hlt hel he2
        obtain ⟨c0, c1, c2, c3, x0, x1, x2, x3, hc⟩ := hrow.get hej
        obtain ⟨e0, e1, e2, e3, y0, y1, y2, y3, -⟩ := hrow.get (List.getElem?_eq_getElem (show i < es.length by omega))
        clear hej he1 he2 hel
        obtain ⟨k', s, n, a, m, cap', hv⟩ := hc.form
        simp only [Value.agg.injEq, Array.mk.injEq, List.cons.injEq, and_true] at hv
        obtain ⟨rfl, rfl, rfl, rfl⟩ := hv
        have g0 := (hown.cellAt (j * 4) (by omega)).trans x0
        have g1 := (hown.cellAt (j * 4 + 1) (by omega)).trans x1
        have g2 := (hown.cellAt (j * 4 + 2) (by omega)).trans x2
        have g3 := (hown.cellAt (j * 4 + 3) (by omega)).trans x3
        obtain ⟨W1, hW1⟩ : ∃ W1, wr.alloc (.cells #[.int .i64 k', .string s, .int .i64 n, .slice a m cap'] 25) = W1 := ⟨_, rfl⟩
        have bX : Blk W1 wr.heap.size 25 #[.int .i64 k', .string s, .int .i64 n, .slice a m cap'] := hW1 ▸ Blk.new wr 25 _
        have hb1 : Below base w W1 := hW1 ▸ hb.alloc (Nat.le_trans hbase hb.size) _
        have hown1 : W1.ownsRow base 25 4 (.slice (some ⟨g, 0, none⟩) ds.length cap) ds.length ys := hW1 ▸ hown.alloc _
        have HCD := hide hc
        have HC := hide (empty_any ds[j] _ W1 (IsDc.keep (fun b hb' => ⟨Nat.lt_of_lt_of_le (Nat.lt_of_lt_of_le (hF b hb') hbase) hb1.size, hb1.block b (hF b hb')⟩) _ _ hc))
        have HY := hide (And.intro y0 (And.intro y1 (And.intro y2 y3)))
        have HO1 := hide hown1
        obtain ⟨p0, p1, p2, p3⟩ := bX.four
        have HBX := hide bX
        have HSK := hide (del_skip hlt HE1.out HE2.out)
        have HKP := hide (del_keep hij hlt HEL.out HE1.out HE2.out)
        clear hown hc x0 x1 x2 x3 y0 y1 y2 y3 hown1 bX
        go_wp2_with fail
        refine (unhide HC).mono ?_
        rintro e w2 ⟨rfl, hb2⟩
        have hb3 : Below base w w2 := hb1.trans (hb2.mono (Nat.le_trans hbase hb1.size))
        clear p0 p1 p2 p3 hW1 g0 g1 g2 g3
        cases hx : ds[j].full with
        | false =>
          go_wp2_with fail
          go_roundw
          case rel => exact ⟨i, j + 1, ys, es, rfl, by go_num, by omega, by omega, own_below HO1.out hb2, hrow, hb3, HEL.out, (HSK.out hx).1, (HSK.out hx).2⟩
          case measure => simp [intOf]; omega
        | true =>
          have hown2 := own_below HO1.out hb2
          have HO2 := hide hown2
          have f0 := hown2.frozenAt
          obtain ⟨y0, y1, y2, y3⟩ := HY.out
          have g0 := (hown2.cellAt (i * 4) (by omega)).trans y0
          have g1 := (hown2.cellAt (i * 4 + 1) (by omega)).trans y1
          have g2 := (hown2.cellAt (i * 4 + 2) (by omega)).trans y2
          have g3 := (hown2.cellAt (i * 4 + 3) (by omega)).trans y3
          obtain ⟨p0, p1, p2, p3⟩ := (HBX.out.below hb2 HBX.out.lt).four
          clear hown2 y0 y1 y2 y3
          go_wp2_with fail
          go_roundw
          case rel => exact ⟨i + 1, j + 1, set4 ys (i * 4) _ _ _ _, es.set i ds[j], by go_num, by go_num, by omega, by omega, own_putAt HO2.out (i * 4) _ _ _ _, hrow.set4 HCD.out i, below_putAt hb3 hg (i * 4) _ _ _ _, by rw [List.length_set]; exact HEL.out, (HKP.out hx).1, (HKP.out hx).2⟩
          case measure => simp [intOf]; omega
      · obtain ⟨w3, hclr, hown3, hgr⟩ := run_clear4 hown (show i < ds.length by omega) (cap - i)
        have hfin : es.take i = ds.filter Dc.full := by rw [he1, List.take_of_length_le (by omega)]
        have HFIN := hide hfin
        have hcap : ¬ cap = i := by omega
        have hb3 : Below base w w3 := hb.grown hgr (Nat.le_trans hbase hb.size) (fun r hr => by cases hr; exact hg)
        have HR := hide (hrow.take i)
        have HL := hide (show (es.take i).length = i by rw [List.length_take, hel]; omega)
        clear he1 he2 hel hfin hown hgr hrow
        go_wp2_with fail
        go_ret
        have hR := HR.out
        have hL := HL.out
        rw [HFIN.out] at hR hL
        refine ⟨_, rfl, ⟨_, by rw [hL]; exact hown3, hR.keep (fun b hb' => ⟨hb', hb3.block b (hF b hb')⟩)⟩, hb3⟩
end Go.Proofs.Ytggbocimapdidaa
