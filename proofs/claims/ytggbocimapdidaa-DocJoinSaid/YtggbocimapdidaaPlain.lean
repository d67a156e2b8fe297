/-
  The reference's readers of a document: Words, hard, flat, and Right.
  Their conditions: the value reads as a document; the texts together are short where they are joined.
-/
import Derived.Test.YtggbocimapdidaaTree
namespace Go.Proofs.Ytggbocimapdidaa
open Go.RowKit

mutual
theorem Dc.ind_ {P : Dc → Prop} (h : ∀ k s n ks, (∀ d ∈ Dcs.toL ks, P d) → P (.mk k s n ks)) : ∀ d, P d
  | .mk k s n ks => h k s n ks (Dcs.ind_ h ks)
termination_by d => SizeOf.sizeOf d
theorem Dcs.ind_ {P : Dc → Prop} (h : ∀ k s n ks, (∀ d ∈ Dcs.toL ks, P d) → P (.mk k s n ks)) : ∀ ks, ∀ d ∈ Dcs.toL ks, P d
  | .nil, d, hd => by simp [Dcs.toL] at hd
  | .cons x r, d, hd => by
    rw [Dcs.toL] at hd
    exact (List.mem_cons.1 hd).elim (fun h1 => h1 ▸ Dc.ind_ h x) (fun h2 => Dcs.ind_ h r d h2)
termination_by ks => SizeOf.sizeOf ks
end

mutual
def wordsD : Dc → ByteArray
  | .mk k s _ ks => (if k = 1 then s else ByteArray.empty) ++ wordsDs ks
def wordsDs : Dcs → ByteArray
  | .nil => ByteArray.empty
  | .cons d r => wordsD d ++ wordsDs r
end
mutual
def hardD : Dc → Bool
  | .mk k _ _ ks => decide (k = 4) || (decide (5 ≤ k) && decide (k ≤ 7) && hardDs ks)
def hardDs : Dcs → Bool
  | .nil => false
  | .cons d r => hardD d || hardDs r
end

theorem hardDs_any : ∀ ks : Dcs, hardDs ks = ks.toL.any hardD
  | .nil => rfl
  | .cons d r => by rw [hardDs, Dcs.toL, List.any_cons, hardDs_any r]

theorem Blk.four {w : World} {g : Nat} {t : TypeId} {x y z u : Value} (h : Blk w g t #[x, y, z, u]) : w.cell? ⟨g, 0, none⟩ = some x ∧ w.cell? ⟨g, 1, none⟩ = some y ∧ w.cell? ⟨g, 2, none⟩ = some z ∧ w.cell? ⟨g, 3, none⟩ = some u := ⟨h.cell 0, h.cell 1, h.cell 2, h.cell 3⟩

theorem IsDc.below {w w' : World} {B : Nat} {d : Dc} {v : Value} (h : IsDc w (· < B) d v) (hb : Below B w w') (hB : B ≤ w'.heap.size) : IsDc w' (· < w'.heap.size) d v :=
  IsDc.keep (fun b hlt => ⟨Nat.lt_of_lt_of_le hlt hB, hb.block b hlt⟩) d v h

set_option maxHeartbeats 2000000 in
theorem hard_any (d : Dc) : ∀ (v : Value) (w : World), IsDc w (· < w.heap.size) d v → Calls Try.prog 29 #[v] w fun e w' => e = .returned (.bool (hardD d)) ∧ Below w.heap.size w w' := by
  refine Dc.ind_ (P := fun d => ∀ (v : Value) (w : World), IsDc w (· < w.heap.size) d v → Calls Try.prog 29 #[v] w fun e w' => e = .returned (.bool (hardD d)) ∧ Below w.heap.size w w') ?_ d
  intro k s n ks IH v w hD
  rw [IsDc] at hD
  obtain ⟨a, cap, rfl, hk, hn, hs, hl, hks⟩ := hD
  have HI := hide IH
  clear IH
  simp only [maxLen] at hl
  by_cases h4 : k = 4
  · subst h4
    go_enter Try.func29, Try.ntmps29
    go_wp2_with fail
    go_ret
    exact ⟨rfl, (Below.refl _ w).alloc (Nat.le_refl _) _⟩
  have e4 : (k == 4) = false := beq_eq_false_iff_ne.2 h4
  obtain ⟨W, hW⟩ : ∃ W, w.alloc (.cells #[.int .i64 k, .string s, .int .i64 n, .slice a ks.len cap] 25) = W := ⟨_, rfl⟩
  have bW : Blk W w.heap.size 25 #[.int .i64 k, .string s, .int .i64 n, .slice a ks.len cap] := hW ▸ Blk.new w 25 _
  have hzW : W.heap.size = w.heap.size + 1 := by rw [← hW]; simp
  have hbW : Below w.heap.size w W := hW ▸ (Below.refl _ w).alloc (Nat.le_refl _) _
  obtain ⟨b0, b1, b2, b3⟩ := bW.four
  by_cases h5 : 5 ≤ k ∧ k ≤ 7
  · have hH : hardD (.mk k s n ks) = ks.toL.any hardD := by
      rw [hardD, hardDs_any, decide_eq_false h4, decide_eq_true h5.1, decide_eq_true h5.2]
      simp
    have HH := hide hH
    clear hH
    obtain ⟨h5a, h5b⟩ := h5
    go_enter Try.func29, Try.ntmps29
    go_wp2_with fail
    clear b0 b1 b2 b3 hW
    go_loopw [3] (fun i wr => ∃ q : Nat, q ≤ ks.len ∧ i = .int .i64 q ∧ Below W.heap.size W wr ∧ ks.toL.any hardD = (ks.toL.drop q).any hardD) (fun i _ => ks.len - (intOf i).toNat)
    case atStart => exact ⟨0, Nat.zero_le _, rfl, Below.refl _ _, rfl⟩
    case round =>
      obtain ⟨q, hq, rfl, hb, hr⟩ := hrel
      have HR := hide hr
      clear hr
      obtain ⟨b0, b1, b2, b3⟩ := (bW.below hb (by omega)).four
      by_cases hlt : q < ks.len
      · obtain ⟨b, o, rfl, hFb, hkk⟩ := hks (by omega)
        have hql : q < ks.toL.length := by rw [Dcs.len_toL]; exact hlt
        obtain ⟨c0, c1, c2, c3, g0, g1, g2, g3, hc⟩ := hkk.get (k := q) (d := ks.toL[q]) (List.getElem?_eq_getElem hql)
        have hw : ∀ i, wr.cell? ⟨b, i, none⟩ = w.cell? ⟨b, i, none⟩ := fun i => (hb.cell (p := ⟨b, i, none⟩) (by show b < _; omega)).trans (hbW.cell (p := ⟨b, i, none⟩) hFb)
        rw [← hw] at g0 g1 g2 g3
        have hc' : IsDc wr (· < wr.heap.size) ks.toL[q] (.agg #[c0, c1, c2, c3]) := IsDc.keep (fun x hx => ⟨by have := hb.size; omega, (hb.block x (by omega)).trans (hbW.block x hx)⟩) _ _ hc
        have HC := hide ((unhide HI) ks.toL[q] (List.getElem_mem hql) _ wr hc')
        have hdr : (ks.toL.drop q).any hardD = (hardD ks.toL[q] || (ks.toL.drop (q + 1)).any hardD) := by rw [List.drop_eq_getElem_cons hql]; rfl
        have HD := hide hdr
        clear hdr hc hc' hw
        go_wp2_with fail
        refine (unhide HC).mono ?_
        rintro e w1 ⟨rfl, hb1⟩
        cases hx : hardD ks.toL[q] with
        | true =>
          go_wp2_with fail
          go_ret
          exact ⟨by rw [HH.out, HR.out, HD.out, hx]; rfl, hbW.trans ((hb.mono (by omega)).trans (hb1.mono (by have := hb.size; omega)))⟩
        | false =>
          go_wp2_with fail
          go_roundw
          case rel => exact ⟨q + 1, by omega, by go_num, hb.trans (hb1.mono (by have := hb.size; omega)), by rw [HR.out, HD.out, hx]; rfl⟩
          case measure => simp [intOf]; omega
      · go_wp2_with fail
        go_ret
        refine ⟨?_, hbW.trans (hb.mono (by omega))⟩
        rw [HH.out, HR.out, List.drop_eq_nil_of_le (by rw [Dcs.len_toL]; omega)]
        rfl
  · have hH : hardD (.mk k s n ks) = false := by
      rw [hardD, decide_eq_false h4]
      by_cases h6 : 5 ≤ k
      · rw [decide_eq_false (show ¬ k ≤ 7 by omega)]; simp
      · rw [decide_eq_false h6]; simp
    have HH := hide hH
    clear hH
    by_cases hlt : 0 < ks.len
    · by_cases h6 : 5 ≤ k
      · have h7 : ¬ k ≤ 7 := by omega
        clear h5
        go_enter Try.func29, Try.ntmps29
        go_wp2_with fail
        go_loopw [3] (fun i wr => i = .int .i64 0 ∧ wr = W) (fun _ _ => 0)
        case atStart => exact ⟨rfl, rfl⟩
        case round =>
          obtain ⟨rfl, rfl⟩ := hrel
          go_wp2_with fail
          all_goals
            go_ret
            exact ⟨by rw [HH.out]; rfl, hbW⟩
      · clear h5
        go_enter Try.func29, Try.ntmps29
        go_wp2_with fail
        go_loopw [3] (fun i wr => i = .int .i64 0 ∧ wr = W) (fun _ _ => 0)
        case atStart => exact ⟨rfl, rfl⟩
        case round =>
          obtain ⟨rfl, rfl⟩ := hrel
          go_wp2_with fail
          all_goals
            go_ret
            exact ⟨by rw [HH.out]; rfl, hbW⟩
    · have d0 : ¬ ((0 : Int) < (ks.len : Int)) := by omega
      clear h5
      go_enter Try.func29, Try.ntmps29
      go_wp2_with fail
      go_loopw [3] (fun i wr => i = .int .i64 0 ∧ wr = W) (fun _ _ => 0)
      case atStart => exact ⟨rfl, rfl⟩
      case round =>
        obtain ⟨rfl, rfl⟩ := hrel
        go_wp2_with fail
        all_goals
          go_ret
          exact ⟨by rw [HH.out]; rfl, hbW⟩
end Go.Proofs.Ytggbocimapdidaa
