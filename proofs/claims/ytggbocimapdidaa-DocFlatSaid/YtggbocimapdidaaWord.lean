/-
  The reference's Words and flat of a document.
  Their conditions: the value reads as a document; what is joined has at most 1000000000 bytes.
-/
import Derived.Test.YtggbocimapdidaaPlain
namespace Go.Proofs.Ytggbocimapdidaa
open Go.RowKit

def wordsL : List Dc → ByteArray
  | [] => ByteArray.empty
  | d :: r => wordsD d ++ wordsL r
theorem wordsDs_L : ∀ ks : Dcs, wordsDs ks = wordsL ks.toL
  | .nil => by rw [wordsDs, Dcs.toL, wordsL]
  | .cons d r => by rw [wordsDs, Dcs.toL, wordsL, wordsDs_L r]

set_option maxHeartbeats 2000000 in
theorem words_any (d : Dc) : ∀ (v : Value) (w : World), IsDc w (· < w.heap.size) d v → (wordsD d).size ≤ 1000000000 → Calls Try.prog 14 #[v] w fun e w' => e = .returned (.string (wordsD d)) ∧ Below w.heap.size w w' := by
  refine Dc.ind_ (P := fun d => ∀ (v : Value) (w : World), IsDc w (· < w.heap.size) d v → (wordsD d).size ≤ 1000000000 → Calls Try.prog 14 #[v] w fun e w' => e = .returned (.string (wordsD d)) ∧ Below w.heap.size w w') ?_ d
  intro k s n ks IH v w hD hsize
  rw [IsDc] at hD
  obtain ⟨a, cap, rfl, hk, hn, hs, hl, hks⟩ := hD
  have HI := hide IH
  clear IH
  simp only [maxLen] at hl
  have hH : wordsD (.mk k s n ks) = (if k = 1 then s else ByteArray.empty) ++ wordsL ks.toL := by rw [wordsD, wordsDs_L]
  obtain ⟨tot, ht⟩ : ∃ tot, tot = wordsD (.mk k s n ks) := ⟨_, rfl⟩
  rw [← ht] at hsize hH
  have HT := hide ht.symm
  clear ht
  obtain ⟨W, hW⟩ : ∃ W, w.alloc (.cells #[.int .i64 k, .string s, .int .i64 n, .slice a ks.len cap] 25) = W := ⟨_, rfl⟩
  have bW : Blk W w.heap.size 25 #[.int .i64 k, .string s, .int .i64 n, .slice a ks.len cap] := hW ▸ Blk.new w 25 _
  have hzW : W.heap.size = w.heap.size + 1 := by rw [← hW]; simp
  have hbW : Below w.heap.size w W := hW ▸ (Below.refl _ w).alloc (Nat.le_refl _) _
  obtain ⟨b0, b1, b2, b3⟩ := bW.four
  by_cases h1 : k = 1
  all_goals
    first
      | (have e1 : (k == 1) = true := beq_iff_eq.2 h1)
      | (have e1 : (k == 1) = false := beq_eq_false_iff_ne.2 h1)
    have H1 := hide h1
    have HH := hide hH
    clear hH h1
    go_enter Try.func14, Try.ntmps14
    go_wp2_with fail
    clear b0 b1 b2 b3 hW
    go_loopw [3, 4] (fun t i wr => ∃ (q : Nat) (out : ByteArray), q ≤ ks.len ∧ t = .string out ∧ i = .int .i64 q ∧ Below W.heap.size W wr ∧ tot = out ++ wordsL (ks.toL.drop q)) (fun _ i _ => ks.len - (intOf i).toNat)
    case atStart => exact ⟨0, _, Nat.zero_le _, rfl, rfl, Below.refl _ _, by rw [HH.out]; simp [H1.out]; try rfl⟩
    case round =>
      obtain ⟨q, out, hq, rfl, rfl, hb, hr⟩ := hrel
      have HR := hide hr
      clear hr
      obtain ⟨b0, b1, b2, b3⟩ := (bW.below hb (by omega)).four
      by_cases hlt : q < ks.len
      · obtain ⟨b, o, rfl, hFb, hkk⟩ := hks (by omega)
        have hql : q < ks.toL.length := by rw [Dcs.len_toL]; exact hlt
        obtain ⟨c0, c1, c2, c3, g0, g1, g2, g3, hc⟩ := hkk.get (k := q) (d := ks.toL[q]) (List.getElem?_eq_getElem hql)
        have hw : ∀ i, wr.cell? ⟨b, i, none⟩ = w.cell? ⟨b, i, none⟩ := fun i => (hb.cell (p := ⟨b, i, none⟩) (by show b < _; omega)).trans (hbW.cell (p := ⟨b, i, none⟩) hFb)
        rw [← hw] at g0 g1 g2 g3
        have hc' : IsDc wr (· < wr.heap.size) ks.toL[q] (.agg #[c0, c1, c2, c3]) := IsDc.keep (fun x hx => ⟨by have := hb.size; omega, (hb.block x (by omega)).trans (hbW.block x hx)⟩) _ _ hc
        have hdr : wordsL (ks.toL.drop q) = wordsD ks.toL[q] ++ wordsL (ks.toL.drop (q + 1)) := by rw [List.drop_eq_getElem_cons hql]; rfl
        have hsz : out.size + ((wordsD ks.toL[q]).size + (wordsL (ks.toL.drop (q + 1))).size) ≤ 1000000000 := by
          have := congrArg ByteArray.size HR.out
          rw [hdr, ByteArray.size_append, ByteArray.size_append] at this
          omega
        have HC := hide ((unhide HI) ks.toL[q] (List.getElem_mem hql) _ wr hc' (by omega))
        have HD := hide hdr
        clear hdr hc hc' hw
        obtain ⟨x, hx⟩ : ∃ x, x = wordsD ks.toL[q] := ⟨_, rfl⟩
        rw [← hx] at hsz HC HD
        clear hx
        go_wp2_with fail
        refine (unhide HC).mono ?_
        rintro e w1 ⟨rfl, hb1⟩
        go_wp2_with fail
        go_roundw
        case rel => exact ⟨q + 1, out ++ x, by omega, rfl, by go_num, hb.trans (hb1.mono (by have := hb.size; omega)), by rw [HR.out, HD.out, ByteArray.append_assoc]⟩
        case measure => simp [intOf]; omega
      · go_wp2_with fail
        go_ret
        refine ⟨?_, hbW.trans (hb.mono (by omega))⟩
        rw [HT.out, HR.out, List.drop_eq_nil_of_le (by rw [Dcs.len_toL]; omega)]
        simp [wordsL]
        try rfl
end Go.Proofs.Ytggbocimapdidaa
