/-
  The program's Same, and slices.EqualFunc at documents.
  Its conditions: the values read as documents.
-/
import Derived.Test.YtggbocimapdidaaIndex
namespace Go.Proofs.Ytggbocimapdidaa
open Go.RowKit Go.WideShapes

mutual
def sameD : Dc → Dc → Bool
  | .mk k s n ks, .mk k' s' n' ks' => decide (k = k') && decide (s = s') && decide (n = n') && sameDs ks ks'
def sameDs : Dcs → Dcs → Bool
  | .nil, .nil => true
  | .cons d r, .cons d' r' => sameD d d' && sameDs r r'
  | _, _ => false
end
def sameL : List Dc → List Dc → Bool
  | [], [] => true
  | d :: r, d' :: r' => sameD d d' && sameL r r'
  | _, _ => false
theorem sameDs_L : ∀ ks ks' : Dcs, sameDs ks ks' = sameL ks.toL ks'.toL
  | .nil, .nil => by rw [sameDs, Dcs.toL, sameL]
  | .nil, .cons _ _ => by rw [sameDs, Dcs.toL, Dcs.toL, sameL] <;> simp
  | .cons _ _, .nil => by rw [sameDs, Dcs.toL, Dcs.toL, sameL] <;> simp
  | .cons d r, .cons d' r' => by rw [sameDs, Dcs.toL, Dcs.toL, sameL, sameDs_L r r']
theorem sameL_len : ∀ l l' : List Dc, l.length ≠ l'.length → sameL l l' = false
  | [], [], h => absurd rfl h
  | [], _ :: _, _ => by rw [sameL] <;> simp
  | _ :: _, [], _ => by rw [sameL] <;> simp
  | d :: r, d' :: r', h => by rw [sameL, sameL_len r r' (by simpa using h)]; simp

def SameOk (d : Dc) : Prop := ∀ (d' : Dc) (v v' : Value) (w : World), IsDc w (· < w.heap.size) d v → IsDc w (· < w.heap.size) d' v' → Calls Try.prog 17 #[v, v'] w (Says (sameD d d') w)

set_option maxHeartbeats 2000000 in
theorem equal_any (F : Nat → Prop) (ds es : List Dc) (v v' : Value) (w : World) (hF : ∀ b, F b → b < w.heap.size) (h : IsSl w F ds v) (h' : IsSl w F es v') (IH : ∀ d ∈ ds, SameOk d) :
    Calls Try.prog 34 #[v, v', .func (.func 17) #[] #[]] w (Says (sameL ds es) w) := by
  obtain ⟨a, cap, rfl, hl, hk⟩ := h
  obtain ⟨a', cap', rfl, hl', hk'⟩ := h'
  simp only [maxLen] at hl hl'
  by_cases hne : ds.length = es.length
  · have HN := hide hne.symm
    rw [← hne] at hl' ⊢
    have e0 : ((ds.length : Int) == (ds.length : Int)) = true := by simp
    clear hne
    go_enter Try.func34, Try.ntmps34
    go_wp2_with fail
    go_loopw [17] (fun i wr => ∃ q : Nat, q ≤ ds.length ∧ i = .int .i64 q ∧ Below w.heap.size w wr ∧ sameL ds es = sameL (ds.drop q) (es.drop q)) (fun i _ => ds.length - (intOf i).toNat)
    case atStart => exact ⟨0, Nat.zero_le _, rfl, Below.refl _ _, rfl⟩
    case round =>
      obtain ⟨q, hq, rfl, hb, hr⟩ := hrel
      have HR := hide hr
      clear hr
      by_cases hlt : q < ds.length
      · have hlt' : q < es.length := by rw [HN.out]; exact hlt
        obtain ⟨b, o, rfl, hFb, hkk⟩ := hk (by omega)
        obtain ⟨b', o', rfl, hFb', hkk'⟩ := hk' (by omega)
        obtain ⟨c0, c1, c2, c3, g0, g1, g2, g3, hc⟩ := hkk.get (k := q) (d := ds[q]) (by rw [Dcs.toL_ofL]; exact List.getElem?_eq_getElem hlt)
        obtain ⟨e0, e1, e2, e3, f0, f1, f2, f3, he⟩ := hkk'.get (k := q) (d := es[q]) (by rw [Dcs.toL_ofL]; exact List.getElem?_eq_getElem hlt')
        have hw : ∀ x i, F x → wr.cell? ⟨x, i, none⟩ = w.cell? ⟨x, i, none⟩ := fun x i hx => hb.cell (p := ⟨x, i, none⟩) (hF x hx)
        rw [← hw _ _ hFb] at g0 g1 g2 g3
        rw [← hw _ _ hFb'] at f0 f1 f2 f3
        have hz := hb.size
        have HCd := hide hc
        have HEd := hide he
        have hdr : sameL (ds.drop q) (es.drop q) = (sameD ds[q] es[q] && sameL (ds.drop (q + 1)) (es.drop (q + 1))) := by rw [List.drop_eq_getElem_cons hlt, List.drop_eq_getElem_cons hlt', sameL]
        have HD := hide hdr
        obtain ⟨k1, s1, n1, a1, m1, cap1, hv⟩ := hc.form
        obtain ⟨k2, s2, n2, a2, m2, cap2, hv2⟩ := he.form
        clear hdr hw hc he
        simp only [Value.agg.injEq, Array.mk.injEq, List.cons.injEq, and_true] at hv hv2
        obtain ⟨rfl, rfl, rfl, rfl⟩ := hv
        obtain ⟨rfl, rfl, rfl, rfl⟩ := hv2
        have hFb1 : b < wr.heap.size := Nat.lt_of_lt_of_le (hF b hFb) hz
        have hFb2 : b' < wr.heap.size := Nat.lt_of_lt_of_le (hF b' hFb') hz
        replace f0 := Lib.cell?_alloc_some (.cells #[.int .i64 k1, .string s1, .int .i64 n1, .slice a1 m1 cap1] 25) f0
        replace f1 := Lib.cell?_alloc_some (.cells #[.int .i64 k1, .string s1, .int .i64 n1, .slice a1 m1 cap1] 25) f1
        replace f2 := Lib.cell?_alloc_some (.cells #[.int .i64 k1, .string s1, .int .i64 n1, .slice a1 m1 cap1] 25) f2
        replace f3 := Lib.cell?_alloc_some (.cells #[.int .i64 k1, .string s1, .int .i64 n1, .slice a1 m1 cap1] 25) f3
        obtain ⟨W2, hW2⟩ : ∃ W2, (wr.alloc (.cells #[.int .i64 k1, .string s1, .int .i64 n1, .slice a1 m1 cap1] 25)).alloc (.cells #[.int .i64 k2, .string s2, .int .i64 n2, .slice a2 m2 cap2] 25) = W2 := ⟨_, rfl⟩
        have hb2 : Below w.heap.size w W2 := by
          rw [← hW2]
          exact (hb.alloc hz _).alloc (by simp; omega) _
        have hC1 : IsDc W2 (· < W2.heap.size) ds[q] (.agg #[.int .i64 k1, .string s1, .int .i64 n1, .slice a1 m1 cap1]) := IsDc.keep (fun x hx => ⟨Nat.lt_of_lt_of_le (hF x hx) hb2.size, hb2.block x (hF x hx)⟩) _ _ HCd.out
        have hC2 : IsDc W2 (· < W2.heap.size) es[q] (.agg #[.int .i64 k2, .string s2, .int .i64 n2, .slice a2 m2 cap2]) := IsDc.keep (fun x hx => ⟨Nat.lt_of_lt_of_le (hF x hx) hb2.size, hb2.block x (hF x hx)⟩) _ _ HEd.out
        have HC := hide (IH ds[q] (List.getElem_mem hlt) es[q] _ _ W2 hC1 hC2)
        have bX1 : Blk W2 wr.heap.size 25 #[.int .i64 k1, .string s1, .int .i64 n1, .slice a1 m1 cap1] := hW2 ▸ (Blk.new wr 25 _).alloc _
        have bX2 : Blk W2 (wr.heap.size + 1) 25 #[.int .i64 k2, .string s2, .int .i64 n2, .slice a2 m2 cap2] := by
          have := Blk.new (wr.alloc (.cells #[.int .i64 k1, .string s1, .int .i64 n1, .slice a1 m1 cap1] 25)) 25 #[.int .i64 k2, .string s2, .int .i64 n2, .slice a2 m2 cap2]
          rw [World.size_alloc, hW2] at this
          exact this
        obtain ⟨p0, p1, p2, p3⟩ := bX1.four
        obtain ⟨q0, q1, q2, q3⟩ := bX2.four
        clear hC1 hC2 bX1 bX2
        go_wp2_with fail
        refine (unhide HC).mono ?_
        rintro e w1 ⟨rfl, hb1⟩
        clear g0 g1 g2 g3 f0 f1 f2 f3 hW2 p0 p1 p2 p3 q0 q1 q2 q3
        cases hx : sameD ds[q] es[q] with
        | false =>
          go_wp2_with fail
          go_ret
          exact ⟨by rw [HR.out, HD.out, hx]; rfl, hb2.trans (hb1.mono hb2.size)⟩
        | true =>
          go_wp2_with fail
          go_roundw
          case rel => exact ⟨q + 1, by omega, by go_num, hb2.trans (hb1.mono hb2.size), by rw [HR.out, HD.out, hx]; rfl⟩
          case measure => simp [intOf]; omega
      · go_wp2_with fail
        go_ret
        refine ⟨?_, hb⟩
        rw [HR.out, List.drop_eq_nil_of_le (by omega), List.drop_eq_nil_of_le (by rw [HN.out]; omega)]
        rfl
  · have HN := hide (sameL_len ds es hne)
    have e0 : ((ds.length : Int) == (es.length : Int)) = false := beq_eq_false_iff_ne.2 (by omega)
    go_enter Try.func34, Try.ntmps34
    go_wp2_with fail
    go_ret
    exact ⟨by rw [HN.out]; rfl, Below.refl _ _⟩

set_option maxHeartbeats 2000000 in
theorem same_any (d : Dc) : SameOk d := by
  refine Dc.ind_ (P := SameOk) ?_ d
  intro k s n ks IH d' v v' w hD hE
  obtain ⟨k', s', n', ks'⟩ := d'
  obtain ⟨x, rfl, hk, hn, hs, hsl⟩ := hD.split
  obtain ⟨x', rfl, hk', hn', hs', hsl'⟩ := hE.split
  obtain ⟨W, hW⟩ : ∃ W, (w.alloc (.cells #[.int .i64 k, .string s, .int .i64 n, x] 25)).alloc (.cells #[.int .i64 k', .string s', .int .i64 n', x'] 25) = W := ⟨_, rfl⟩
  have hbW : Below w.heap.size w W := by
    rw [← hW]
    exact ((Below.refl _ w).alloc (Nat.le_refl _) _).alloc (by simp) _
  have hzW := hbW.size
  have bW1 : Blk W w.heap.size 25 #[.int .i64 k, .string s, .int .i64 n, x] := hW ▸ (Blk.new w 25 _).alloc _
  have bW2 : Blk W (w.heap.size + 1) 25 #[.int .i64 k', .string s', .int .i64 n', x'] := by
    have := Blk.new (w.alloc (.cells #[.int .i64 k, .string s, .int .i64 n, x] 25)) 25 #[.int .i64 k', .string s', .int .i64 n', x']
    rw [World.size_alloc, hW] at this
    exact this
  obtain ⟨p0, p1, p2, p3⟩ := bW1.four
  obtain ⟨q0, q1, q2, q3⟩ := bW2.four
  have HC := hide (equal_any (· < W.heap.size) ks.toL ks'.toL x x' W (fun _ h => h) (hsl.keep (fun b h => ⟨Nat.lt_of_lt_of_le h hzW, hbW.block b h⟩)) (hsl'.keep (fun b h => ⟨Nat.lt_of_lt_of_le h hzW, hbW.block b h⟩)) IH)
  obtain ⟨a1, c1, rfl, -⟩ := hsl
  obtain ⟨a2, c2, rfl, -⟩ := hsl'
  clear hD hE bW1 bW2 hs hs'
  unfold Says
  rw [show sameD (.mk k s n ks) (.mk k' s' n' ks') = (decide (k = k') && decide (s = s') && decide (n = n') && sameL ks.toL ks'.toL) by rw [sameD, sameDs_L]]
  by_cases h1 : k = k'
  · subst h1
    by_cases h2 : s = s'
    · subst h2
      by_cases h3 : n = n'
      · subst h3
        simp only [decide_true, Bool.true_and]
        go_enter Try.func17, Try.ntmps17
        go_wp2_with fail
        refine (unhide HC).mono ?_
        rintro e w1 ⟨rfl, hb1⟩
        go_wp2_with fail
        go_ret
        exact ⟨rfl, hbW.trans (hb1.mono hzW)⟩
      · have e3 : (n == n') = false := beq_eq_false_iff_ne.2 h3
        simp only [decide_true, Bool.true_and, decide_eq_false h3, Bool.false_and]
        clear h3
        go_enter Try.func17, Try.ntmps17
        go_wp2_with fail
        go_ret
        exact ⟨rfl, hbW⟩
    · simp only [decide_true, Bool.true_and, decide_eq_false h2, Bool.false_and]
      have e3 : (s.toList == s'.toList) = false := beq_eq_false_iff_ne.2 (fun e => h2 (by rw [ByteArray.toList_eq, ByteArray.toList_eq] at e; exact bytes_inj e))
      go_enter Try.func17, Try.ntmps17
      go_wp2_with fail
      go_ret
      exact ⟨rfl, hbW⟩
  · have e3 : (k == k') = false := beq_eq_false_iff_ne.2 h1
    simp only [decide_eq_false h1, Bool.false_and]
    clear h1
    go_enter Try.func17, Try.ntmps17
    go_wp2_with fail
    go_ret
    exact ⟨rfl, hbW⟩
end Go.Proofs.Ytggbocimapdidaa
