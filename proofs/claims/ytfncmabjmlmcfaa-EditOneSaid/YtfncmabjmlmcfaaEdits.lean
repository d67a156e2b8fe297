/-
  The walk of Edits: it makes the edits that choices say.
  Its condition: the slice reads as bytes.
-/
import Derived.Test.YtfncmabjmlmcfaaMem
namespace Go.Proofs.Ytfncmabjmlmcfaa
open Go.RowKit

theorem info36 : (Try.prog.info? 36).map (fun i => (i.zero, i.size, i.bytes)) = some (some (.agg #[.int .i64 0, .int .i64 0, .string ByteArray.empty]), 3, 32) := by kernel_rfl

theorem drop3 {c : List Int} {i : Nat} (h : i + 2 < c.length) : c.drop i = c[i] :: c[i + 1] :: c[i + 2] :: c.drop (i + 3) := by
  rw [List.drop_eq_getElem_cons (show i < c.length by omega), List.drop_eq_getElem_cons (show i + 1 < c.length by omega), List.drop_eq_getElem_cons (show i + 1 + 1 < c.length by omega)]
theorem eds_go {n q q' : Int} {k : Nat} {c : List Int} (h : 3 * k + 2 < c.length) (hk : k < 10) (ht : q + c[3 * k] % 4 + c[3 * k + 1] % 4 ≤ n) (hq : q' = nextAt (q + c[3 * k] % 4) (q + c[3 * k] % 4 + c[3 * k + 1] % 4) c[3 * k + 2]) :
    edsL n (10 - k) q (c.drop (3 * k)) = ⟨q + c[3 * k] % 4, q + c[3 * k] % 4 + c[3 * k + 1] % 4, xyzw.extract 0 (c[3 * k + 2] % 5).toNat⟩ :: edsL n (10 - (k + 1)) q' (c.drop (3 * (k + 1))) := by
  rw [drop3 h, show 10 - k = (10 - (k + 1)) + 1 by omega, edsL, if_neg (by omega), hq, show 3 * (k + 1) = 3 * k + 3 by omega]
theorem eds_far {n q : Int} {k : Nat} {c : List Int} (h : 3 * k + 2 < c.length) (hk : k < 10) (ht : n < q + c[3 * k] % 4 + c[3 * k + 1] % 4) : edsL n (10 - k) q (c.drop (3 * k)) = [] := by
  rw [drop3 h, show 10 - k = (10 - (k + 1)) + 1 by omega, edsL, if_pos ht]
theorem eds_out {n q : Int} {k : Nat} {c : List Int} (h : c.length ≤ 3 * k + 2 ∨ 10 ≤ k) : edsL n (10 - k) q (c.drop (3 * k)) = [] := by
  rcases h with h | h
  · have hl : (c.drop (3 * k)).length ≤ 2 := by simp; omega
    generalize c.drop (3 * k) = d at hl
    cases hk : 10 - k with
    | zero => simp [edsL]
    | succ m =>
      match d, hl with
      | [], _ => simp [edsL]
      | [_], _ => simp [edsL]
      | [_, _], _ => simp [edsL]
  · rw [show 10 - k = 0 by omega]; simp [edsL]
theorem nextAt_is (f t c : Int) : nextAt f t c = if 250 < c then (if t < f + 1 then f + 1 else t) - 1 else if t < f + 1 then f + 1 else t := by
  unfold nextAt
  have : max t (f + 1) = if t < f + 1 then f + 1 else t := by rw [Int.max_def]; split <;> split <;> omega
  rw [this]
theorem edCut_fits {f t : Int} {k : Nat} (h0 : 0 ≤ f) (h1 : f ≤ 9223372036854775807) (h2 : 0 ≤ t) (h3 : t ≤ 9223372036854775807) : Ed.fits ⟨f, t, xyzw.extract 0 k⟩ := by
  refine ⟨by simp only []; omega, by simp only []; omega, by simp only []; omega, by simp only []; omega, ?_⟩
  have : (xyzw.extract 0 k).size ≤ 4 := by
    rw [ByteArray.size_extract]; have : xyzw.size = 4 := rfl; omega
  simp only [maxLen]; omega

set_option maxHeartbeats 1000000 in
theorem edits_any (a : Option Addr) (m cap : Nat) (c : List Int) (n : Int) (w : World) (hI : IsBytes w (· < w.heap.size) a m c) :
    Calls Try.prog 13 #[.slice a m cap, .int .i64 n] w (EdsPost w (edsL n 10 0 c)) := by
  have hml : m = c.length := hI.1
  have hmm : m ≤ 9223372036854775807 := hI.2.1
  subst hml
  obtain ⟨i0, hi, hz0, hz1, hz2⟩ := info_parts info36
  go_enter Try.func13, Try.ntmps13
  go_wp2_with fail
  go_loopw [5, 6, 7] (fun v p i wr => ∃ (k : Nat) (q : Int) (acc : List Ed), 3 * k ≤ c.length + 2 ∧ k ≤ 10 ∧ i = .int .i64 (3 * (k : Int)) ∧ p = .int .i64 q ∧ 0 ≤ q ∧ q ≤ 10 * (k : Int) ∧
      wr.ownsRow w.heap.size 36 3 v acc.length (acc.flatMap edCells) ∧ Below w.heap.size w wr ∧ acc.length = k ∧ (∀ e ∈ acc, e.fits) ∧ edsL n 10 0 c = acc ++ edsL n (10 - k) q (c.drop (3 * k))) (fun _ _ i _ => 40 - (intOf i).toNat)
  case atStart => exact ⟨0, 0, [], by omega, by omega, rfl, rfl, by omega, by omega, World.ownsRow_nil _ _ _ _, Below.refl _ _, rfl, by simp, by simp⟩
  case round =>
    obtain ⟨k, q, acc, hk, hk10, rfl, rfl, hq0, hq1, hown, hb, hal, hfit, heq⟩ := hrel
    have HQ := hide heq
    have HA := hide hal
    have HF := hide hfit
    clear heq hal hfit
    by_cases h1 : 3 * k + 2 < c.length
    · by_cases h2 : k < 10
      · obtain ⟨b, o, rfl, hFb, g0, b00, b01⟩ := hI.get (show 3 * k < c.length by omega)
        obtain ⟨b', o', hbo, _, g1, b10, b11⟩ := hI.get (show 3 * k + 1 < c.length by omega)
        simp only [Option.some.injEq, Addr.mk.injEq, and_true] at hbo
        obtain ⟨rfl, rfl⟩ := hbo
        obtain ⟨b', o', hbo, _, g2, b20, b21⟩ := hI.get (show 3 * k + 2 < c.length by omega)
        simp only [Option.some.injEq, Addr.mk.injEq, and_true] at hbo
        obtain ⟨rfl, rfl⟩ := hbo
        replace g0 := (hb.cell (p := ⟨b, o + 3 * k, none⟩) hFb).trans g0
        replace g1 := (hb.cell (p := ⟨b, o + (3 * k + 1), none⟩) hFb).trans g1
        replace g2 := (hb.cell (p := ⟨b, o + (3 * k + 2), none⟩) hFb).trans g2
        go_wp2_with (at_builtin; refine wpList_append_own _ rfl (.tmp 41) (.tmp 52) 26 rfl w.heap.size 36 i0 _ 3 32 Try.underlying26 hi hz0 hz1 hz2 rfl (by decide) _ acc.length _ rfl (hown.alloc _) ⟨wr.heap.size, 0, none⟩ 1 1 [.int .i64 (q + c[3 * k] % 4), .int .i64 (q + c[3 * k] % 4 + c[3 * k + 1] % 4), .string ((⟨#[120, 121, 122, 119]⟩ : ByteArray).extract 0 (c[3 * k + 2] % 5).toNat)] rfl rfl (cell_three_new _ _ _ _ _) ?c2 ?c3 ?c4 ?c5 ?_)
        case c2 => simp [Value.oneCell']
        case c3 => have := HA.out; simp only [maxLen]; omega
        case c4 => have := HA.out; omega
        case c5 => have := hb.size; simp; omega
        · have ht : n < q + c[3 * k] % 4 + c[3 * k + 1] % 4 := by assumption
          go_ret
          have e1 : edsL n 10 0 c = acc := by rw [HQ.out, eds_far h1 h2 ht, List.append_nil]
          rw [e1]
          exact edsPost_own hown rfl (by have := HA.out; simp only [maxLen]; omega) HF.out hb
        · intro v' w1 hown' hgrow _
          have hz := hb.size
          have hb1 : Below w.heap.size w w1 := (hb.alloc hz _).grown hgrow (by simp; omega) (fun r hr => (hown.lt r hr).1)
          have g3 : w1.cell? ⟨b, o + (3 * k + 2), none⟩ = some (.int .u8 c[3 * k + 2]) := ((hb1.cell (p := ⟨b, o + (3 * k + 2), none⟩) hFb).trans (hb.cell (p := ⟨b, o + (3 * k + 2), none⟩) hFb).symm).trans g2
          clear hown hgrow hb g0 g1 g2
          go_wp2_with fail
          all_goals
            have ht : q + c[3 * k] % 4 + c[3 * k + 1] % 4 ≤ n := by assumption
            go_roundw
            case rel =>
              refine ⟨k + 1, _, acc ++ [⟨q + c[3 * k] % 4, q + c[3 * k] % 4 + c[3 * k + 1] % 4, xyzw.extract 0 (c[3 * k + 2] % 5).toNat⟩], by omega, by omega, by go_num, rfl, by omega, by omega, ?_, hb1, by simp [HA.out], ?_, ?_⟩
              · rw [List.flatMap_append, List.length_append]
                exact hown'
              · intro e he
                rcases List.mem_append.1 he with he | he
                · exact HF.out e he
                · obtain rfl := List.mem_singleton.1 he
                  exact edCut_fits (by omega) (by omega) (by omega) (by omega)
              · rw [HQ.out, List.append_assoc, eds_go h1 h2 ht (q' := _) ?_]
                · rfl
                · rw [nextAt_is]
                  (repeat' split) <;> omega
            case measure => simp [intOf]; omega
      · go_wp2_with fail
        all_goals
          go_ret
          have e1 : edsL n 10 0 c = acc := by rw [HQ.out, eds_out (by omega), List.append_nil]
          rw [e1]
          exact edsPost_own hown rfl (by have := HA.out; simp only [maxLen]; omega) HF.out hb
    · go_wp2_with fail
      all_goals
        go_ret
        have e1 : edsL n 10 0 c = acc := by rw [HQ.out, eds_out (by omega), List.append_nil]
        rw [e1]
        exact edsPost_own hown rfl (by have := HA.out; simp only [maxLen]; omega) HF.out hb
end Go.Proofs.Ytfncmabjmlmcfaa
