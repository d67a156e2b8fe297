/-
  The reference's flat of a document.
  Their conditions: the value reads as a document; what is joined has at most 1000000000 bytes.
-/
import Derived.Test.YtggbocimapdidaaPlain
namespace Go.Proofs.Ytggbocimapdidaa
open Go.RowKit

mutual
def flatD : Dc → ByteArray
  | .mk k s _ ks => (if k = 1 then s else if k = 2 then ⟨#[32]⟩ else ByteArray.empty) ++ (if 5 ≤ k ∧ k ≤ 7 then flatDs ks else ByteArray.empty)
def flatDs : Dcs → ByteArray
  | .nil => ByteArray.empty
  | .cons d r => flatD d ++ flatDs r
end
def flatL : List Dc → ByteArray
  | [] => ByteArray.empty
  | d :: r => flatD d ++ flatL r
theorem flatDs_L : ∀ ks : Dcs, flatDs ks = flatL ks.toL
  | .nil => by rw [flatDs, Dcs.toL, flatL]
  | .cons d r => by rw [flatDs, Dcs.toL, flatL, flatDs_L r]

set_option maxHeartbeats 2000000 in
theorem flat_any (d : Dc) : ∀ (v : Value) (w : World), IsDc w (· < w.heap.size) d v → (flatD d).size ≤ 1000000000 → Calls Try.prog 30 #[v] w fun e w' => e = .returned (.string (flatD d)) ∧ Below w.heap.size w w' := by
  refine Dc.ind_ (P := fun d => ∀ (v : Value) (w : World), IsDc w (· < w.heap.size) d v → (flatD d).size ≤ 1000000000 → Calls Try.prog 30 #[v] w fun e w' => e = .returned (.string (flatD d)) ∧ Below w.heap.size w w') ?_ d
  intro k s n ks IH v w hD hsize
  rw [IsDc] at hD
  obtain ⟨a, cap, rfl, hk, hn, hs, hl, hks⟩ := hD
  have HI := hide IH
  clear IH
  simp only [maxLen] at hl
  have hH : flatD (.mk k s n ks) = (if k = 1 then s else if k = 2 then ⟨#[32]⟩ else ByteArray.empty) ++ (if 5 ≤ k ∧ k ≤ 7 then flatL ks.toL else ByteArray.empty) := by rw [flatD, flatDs_L]
  obtain ⟨tot, ht⟩ : ∃ tot, tot = flatD (.mk k s n ks) := ⟨_, rfl⟩
  rw [← ht] at hsize hH
  have HT := hide ht.symm
  clear ht
  obtain ⟨W, hW⟩ : ∃ W, w.alloc (.cells #[.int .i64 k, .string s, .int .i64 n, .slice a ks.len cap] 25) = W := ⟨_, rfl⟩
  have bW : Blk W w.heap.size 25 #[.int .i64 k, .string s, .int .i64 n, .slice a ks.len cap] := hW ▸ Blk.new w 25 _
  have hzW : W.heap.size = w.heap.size + 1 := by rw [← hW]; simp
  have hbW : Below w.heap.size w W := hW ▸ (Below.refl _ w).alloc (Nat.le_refl _) _
  obtain ⟨b0, b1, b2, b3⟩ := bW.four
  by_cases h5 : 5 ≤ k ∧ k ≤ 7
  · obtain ⟨h5a, h5b⟩ := h5
    have e1 : (k == 1) = false := beq_eq_false_iff_ne.2 (by omega)
    have e2 : (k == 2) = false := beq_eq_false_iff_ne.2 (by omega)
    rw [if_neg (by omega), if_neg (by omega), if_pos ⟨h5a, h5b⟩, ByteArray.empty_append] at hH
    have HH := hide hH
    clear hH
    go_enter Try.func30, Try.ntmps30
    go_wp2_with fail
    clear b0 b1 b2 b3 hW
    go_loopw [3, 4] (fun t i wr => ∃ (q : Nat) (out : ByteArray), q ≤ ks.len ∧ t = .string out ∧ i = .int .i64 q ∧ Below W.heap.size W wr ∧ tot = out ++ flatL (ks.toL.drop q)) (fun _ i _ => ks.len - (intOf i).toNat)
    case atStart => exact ⟨0, _, Nat.zero_le _, rfl, rfl, Below.refl _ _, by rw [HH.out]; simp; try rfl⟩
    case round =>
      obtain ⟨q, out, hq, rfl, rfl, hb, hr⟩ := hrel
      have HR := hide hr
      clear hr
      obtain ⟨b0, b1, b2, b3⟩ := (bW.below hb (by omega)).four
      by_cases hlt : q < ks.len
      · obtain ⟨b, o, rfl, hFb, hkk⟩ := hks (by omega)
        have hql : q < ks.toL.length := by rw [Dcs.len_toL]; exact hlt
        obtain ⟨c0, c1, c2, c3, g0, g1, g2, g3, hc⟩ := hkk.get (k := q) (d := ks.toL[q]) (List.getElem?_eq_getElem hql)
        have hw : ∀ i, wr.cell? ⟨b, i, none⟩ = w.cell? ⟨b, i, none⟩ := fun i => (hb.cell (p := ⟨b, i, none⟩) (by show b < _; omega)).trans (hbW.cell (p := ⟨b, i, none⟩) hFb)
        rw [← hw] at g0 g1 g2 g3
        have hc' : IsDc wr (· < wr.heap.size) ks.toL[q] (.agg #[c0, c1, c2, c3]) := IsDc.keep (fun x hx => ⟨by have := hb.size; omega, (hb.block x (by omega)).trans (hbW.block x hx)⟩) _ _ hc
        have hdr : flatL (ks.toL.drop q) = flatD ks.toL[q] ++ flatL (ks.toL.drop (q + 1)) := by rw [List.drop_eq_getElem_cons hql]; rfl
        have hsz : out.size + ((flatD ks.toL[q]).size + (flatL (ks.toL.drop (q + 1))).size) ≤ 1000000000 := by
          have := congrArg ByteArray.size HR.out
          rw [hdr, ByteArray.size_append, ByteArray.size_append] at this
          omega
        have HC := hide ((unhide HI) ks.toL[q] (List.getElem_mem hql) _ wr hc' (by omega))
        have HD := hide hdr
        clear hdr hc hc' hw
        obtain ⟨x, hx⟩ : ∃ x, x = flatD ks.toL[q] := ⟨_, rfl⟩
        rw [← hx] at hsz HC HD
        clear hx
        go_wp2_with fail
        refine (unhide HC).mono ?_
        rintro e w1 ⟨rfl, hb1⟩
        go_wp2_with fail
        go_roundw
        case rel => exact ⟨q + 1, out ++ x, by omega, rfl, by go_num, hb.trans (hb1.mono (by have := hb.size; omega)), by rw [HR.out, HD.out, ByteArray.append_assoc]⟩
        case measure => simp [intOf]; omega
      · go_wp2_with fail
        go_ret
        refine ⟨?_, hbW.trans (hb.mono (by omega))⟩
        rw [HT.out, HR.out, List.drop_eq_nil_of_le (by rw [Dcs.len_toL]; omega)]
        simp [flatL]
        try rfl
  · rw [if_neg h5, ByteArray.append_empty] at hH
    have HH := hide hH
    clear hH
    by_cases h1 : k = 1
    · have e1 : (k == 1) = true := beq_iff_eq.2 h1
      rw [if_pos h1] at HH
      have hle : ¬ 5 ≤ k := by omega
      clear h1 h5
      by_cases hlt : (0 : Int) < (ks.len : Int)
      all_goals
        go_enter Try.func30, Try.ntmps30
        go_wp2_with fail
        go_loopw [3, 4] (fun t i wr => t = .string tot ∧ i = .int .i64 0 ∧ wr = W) (fun _ _ _ => 0)
        case atStart => exact ⟨by (rw [HH.out]; try rfl), rfl, rfl⟩
        case round =>
          obtain ⟨rfl, rfl, rfl⟩ := hrel
          go_wp2_with fail
          all_goals
            go_ret
            exact ⟨by rw [HT.out]; rfl, hbW⟩
    · by_cases h2 : k = 2
      · have e1 : (k == 1) = false := beq_eq_false_iff_ne.2 h1
        have e2 : (k == 2) = true := beq_iff_eq.2 h2
        rw [if_neg h1, if_pos h2] at HH
        have hle : ¬ 5 ≤ k := by omega
        clear h1 h2 h5
        by_cases hlt : (0 : Int) < (ks.len : Int)
        all_goals
          go_enter Try.func30, Try.ntmps30
          go_wp2_with fail
          go_loopw [3, 4] (fun t i wr => t = .string tot ∧ i = .int .i64 0 ∧ wr = W) (fun _ _ _ => 0)
          case atStart => exact ⟨by (rw [HH.out]; try rfl), rfl, rfl⟩
          case round =>
            obtain ⟨rfl, rfl, rfl⟩ := hrel
            go_wp2_with fail
            all_goals
              go_ret
              exact ⟨by rw [HT.out]; rfl, hbW⟩
      · have e1 : (k == 1) = false := beq_eq_false_iff_ne.2 h1
        have e2 : (k == 2) = false := beq_eq_false_iff_ne.2 h2
        rw [if_neg h1, if_neg h2] at HH
        clear h1 h2
        by_cases h6 : 5 ≤ k
        · have h7 : ¬ k ≤ 7 := by omega
          clear h5
          by_cases hlt : (0 : Int) < (ks.len : Int)
          all_goals
            go_enter Try.func30, Try.ntmps30
            go_wp2_with fail
            go_loopw [3, 4] (fun t i wr => t = .string tot ∧ i = .int .i64 0 ∧ wr = W) (fun _ _ _ => 0)
            case atStart => exact ⟨by (rw [HH.out]; try rfl), rfl, rfl⟩
            case round =>
              obtain ⟨rfl, rfl, rfl⟩ := hrel
              go_wp2_with fail
              all_goals
                go_ret
                exact ⟨by rw [HT.out]; rfl, hbW⟩
        · clear h5
          by_cases hlt : (0 : Int) < (ks.len : Int)
          all_goals
            go_enter Try.func30, Try.ntmps30
            go_wp2_with fail
            go_loopw [3, 4] (fun t i wr => t = .string tot ∧ i = .int .i64 0 ∧ wr = W) (fun _ _ _ => 0)
            case atStart => exact ⟨by (rw [HH.out]; try rfl), rfl, rfl⟩
            case round =>
              obtain ⟨rfl, rfl, rfl⟩ := hrel
              go_wp2_with fail
              all_goals
                go_ret
                exact ⟨by rw [HT.out]; rfl, hbW⟩
end Go.Proofs.Ytggbocimapdidaa
