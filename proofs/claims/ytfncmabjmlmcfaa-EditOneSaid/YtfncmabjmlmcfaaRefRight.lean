/-
  The walk of the reference's Right: it says the same as the program's.
  Its condition: the slice reads as the edits l.
-/
import Derived.Test.YtfncmabjmlmcfaaMem
namespace Go.Proofs.Ytfncmabjmlmcfaa
open Go.RowKit

/-- What stands ahead of place k: where it begins, where it ends. -/
def prevOf (l : List Ed) : Nat → Int × Int
  | 0 => (-1, 0)
  | k + 1 => ((l[k]?.map Ed.lo).getD 0, (l[k]?.map Ed.hi).getD 0)

theorem prevOf_pos {l : List Ed} {k : Nat} (h : 0 < k) (hk : k - 1 < l.length) : prevOf l k = ((l[k - 1]).lo, (l[k - 1]).hi) := by
  obtain ⟨k', rfl⟩ : ∃ k', k = k' + 1 := ⟨k - 1, by omega⟩
  have hk' : k' < l.length := by omega
  simp [prevOf, hk']

set_option maxHeartbeats 1000000 in
theorem refRight_any (a : Option Addr) (m cap : Nat) (l : List Ed) (n : Int) (w : World) (hI : IsEds w (· < w.heap.size) a m l) :
    Calls Try.prog 19 #[.slice a m cap, .int .i64 n] w fun e w' => e = .returned (.bool (decide (l.length ≤ 1000) && okGo n (-1) 0 l)) ∧ ∃ j, w' = w.drewN j := by
  have hml : m = l.length := hI.1
  subst hml
  by_cases hbig : 1000 < l.length
  · go_enter Try.func19, Try.ntmps19
    go_wp2_with fail
    go_ret
    exact ⟨by simp; omega, 0, rfl⟩
  · go_enter Try.func19, Try.ntmps19
    go_wp2_with fail
    have hd : decide (l.length ≤ 1000) = true := by simp; omega
    have HD := hide hd
    clear hd
    go_loopw [5] (fun i wr => ∃ (k j : Nat), k ≤ l.length ∧ i = .int .i64 k ∧ wr = w.drewN j ∧ okGo n (-1) 0 l = okGo n (prevOf l k).1 (prevOf l k).2 (l.drop k)) (fun i _ => l.length - (intOf i).toNat)
    case atStart => exact ⟨0, 0, Nat.zero_le _, rfl, rfl, rfl⟩
    case round =>
      obtain ⟨k, j, hk, rfl, rfl, hgo⟩ := hrel
      have HG := hide hgo
      clear hgo
      by_cases hlt : k < l.length
      · obtain ⟨b, o, rfl, hFb, ⟨h0, h1, h2⟩, hfit⟩ := hI.get hlt
        obtain ⟨e, he⟩ : ∃ e, e = l[k] := ⟨_, rfl⟩
        rw [← he] at h0 h1 h2 hfit
        have HE := hide he
        clear he
        have hokE : ∀ la lb, okGo n la lb (l.drop k) = (okOne n la lb e && okGo n e.lo e.hi (l.drop (k + 1))) := fun la lb => by rw [List.drop_eq_getElem_cons hlt]; simp [okGo, HE.out]
        have HO := hide hokE
        have HN := hide (show prevOf l (k + 1) = (e.lo, e.hi) by simp [prevOf, hlt, HE.out])
        clear hokE
        by_cases hk0 : 0 < k
        · obtain ⟨b', o', hbo, _, ⟨p0, p1, p2⟩, _⟩ := hI.get (show k - 1 < l.length by omega)
          simp only [Option.some.injEq, Addr.mk.injEq, and_true] at hbo
          obtain ⟨rfl, rfl⟩ := hbo
          obtain ⟨q, hq⟩ : ∃ q, q = l[k - 1] := ⟨_, rfl⟩
          rw [← hq] at p0 p1 p2
          have HP := hide (show prevOf l k = (q.lo, q.hi) by rw [hq]; exact prevOf_pos hk0 (by omega))
          clear hq
          have k1 : IntKind.i64.wrap ((k : Int) - 1) = (k : Int) - 1 := IntWalk.i64_in _ (by omega)
          have k2 : 0 ≤ (k : Int) - 1 := by omega
          have k3 : 1 ≤ (k : Int) := by omega
          have k4 : ((k : Int) - 1).toNat = k - 1 := by omega
          have k5 : (k : Int) - 1 < (l.length : Int) := by omega
          have k6 : k - 1 < l.length := by omega
          by_cases hA : (0 ≤ e.lo ∧ e.lo ≤ e.hi) ∧ e.hi ≤ n
          · obtain ⟨⟨hA1, hA2⟩, hA3⟩ := hA
            have hA4 : decide (n < e.hi) = false := by simpa using hA3
            go_wp2_with fail
            refine wp_region_quiet_lit (by kernel_rfl) (by kernel_rfl) ?_
            repeat (any_goals (first | go_big_quiet_step (fail) | quiet_step (fail) | (refine wpQuiet_step (fun K hK => ?_); go_simp; split <;> (refine hK _ ?_; clear hK K))))
            all_goals (refine wpQuiet_nil ?_; intro _ hw'; obtain ⟨nq, hw''⟩ := hw'; subst hw'')
            go_wp2_with fail
            refine wp_region_quiet_lit (by kernel_rfl) (by kernel_rfl) ?_
            repeat (any_goals (first | go_big_quiet_step (fail) | quiet_step (fail) | (refine wpQuiet_step (fun K hK => ?_); go_simp; split <;> (refine hK _ ?_; clear hK K))))
            all_goals (refine wpQuiet_nil ?_; intro _ hw'; obtain ⟨nq, hw''⟩ := hw'; subst hw'')
            all_goals go_wp2_with fail
            case' roundEnd =>
              go_roundw
              case rel =>
                have hok : okOne n (prevOf l k).1 (prevOf l k).2 e = true := by rw [HP.out]; simp [okOne]; omega
                exact ⟨k + 1, _, by omega, by go_num, rfl, by rw [HG.out, HO.out, hok, HN.out]; simp⟩
              case measure => simp [intOf]; omega
            all_goals
              have hok : okOne n (prevOf l k).1 (prevOf l k).2 e = false := by rw [HP.out]; simp [okOne]; omega
              go_ret
              exact ⟨by rw [HD.out, HG.out, HO.out, hok]; simp, by first | exact ⟨_, rfl⟩ | exact drewEx | exact drewEx3⟩
          · go_wp2_with fail
            refine wp_region_quiet_lit (by kernel_rfl) (by kernel_rfl) ?_
            repeat (any_goals (first | go_big_quiet_step (fail) | quiet_step (fail) | (refine wpQuiet_step (fun K hK => ?_); go_simp; split <;> (refine hK _ ?_; clear hK K))))
            all_goals (refine wpQuiet_nil ?_; intro _ hw'; obtain ⟨nq, hw''⟩ := hw'; subst hw'')
            all_goals go_wp2_with fail
            all_goals
              have hok : okOne n (prevOf l k).1 (prevOf l k).2 e = false := by rw [HP.out]; simp [okOne]; omega
              go_ret
              exact ⟨by rw [HD.out, HG.out, HO.out, hok]; simp, by first | exact ⟨_, rfl⟩ | exact drewEx | exact drewEx3⟩
        · have HP := hide (show prevOf l k = (-1, 0) by rw [show k = 0 from by omega]; rfl)
          have hg : decide (0 < k) = false := by simpa using hk0
          by_cases hA : (0 ≤ e.lo ∧ e.lo ≤ e.hi) ∧ e.hi ≤ n
          · obtain ⟨⟨hA1, hA2⟩, hA3⟩ := hA
            have hA4 : decide (n < e.hi) = false := by simpa using hA3
            go_wp2_with fail
            refine wp_region_quiet_lit (by kernel_rfl) (by kernel_rfl) ?_
            repeat (any_goals (first | go_big_quiet_step (fail) | quiet_step (fail) | (refine wpQuiet_step (fun K hK => ?_); go_simp; split <;> (refine hK _ ?_; clear hK K))))
            all_goals (refine wpQuiet_nil ?_; intro _ hw'; obtain ⟨nq, hw''⟩ := hw'; subst hw'')
            go_wp2_with fail
            refine wp_region_quiet_lit (by kernel_rfl) (by kernel_rfl) ?_
            repeat (any_goals (first | go_big_quiet_step (fail) | quiet_step (fail) | (refine wpQuiet_step (fun K hK => ?_); go_simp; split <;> (refine hK _ ?_; clear hK K))))
            all_goals (refine wpQuiet_nil ?_; intro _ hw'; obtain ⟨nq, hw''⟩ := hw'; subst hw'')
            all_goals go_wp2_with fail
            case' roundEnd =>
              go_roundw
              case rel =>
                have hok : okOne n (prevOf l k).1 (prevOf l k).2 e = true := by rw [HP.out]; simp [okOne]; omega
                exact ⟨k + 1, _, by omega, by go_num, rfl, by rw [HG.out, HO.out, hok, HN.out]; simp⟩
              case measure => simp [intOf]; omega
            all_goals
              have hok : okOne n (prevOf l k).1 (prevOf l k).2 e = false := by rw [HP.out]; simp [okOne]; omega
              go_ret
              exact ⟨by rw [HD.out, HG.out, HO.out, hok]; simp, by first | exact ⟨_, rfl⟩ | exact drewEx | exact drewEx3⟩
          · go_wp2_with fail
            refine wp_region_quiet_lit (by kernel_rfl) (by kernel_rfl) ?_
            repeat (any_goals (first | go_big_quiet_step (fail) | quiet_step (fail) | (refine wpQuiet_step (fun K hK => ?_); go_simp; split <;> (refine hK _ ?_; clear hK K))))
            all_goals (refine wpQuiet_nil ?_; intro _ hw'; obtain ⟨nq, hw''⟩ := hw'; subst hw'')
            all_goals go_wp2_with fail
            all_goals
              have hok : okOne n (prevOf l k).1 (prevOf l k).2 e = false := by rw [HP.out]; simp [okOne]; omega
              go_ret
              exact ⟨by rw [HD.out, HG.out, HO.out, hok]; simp, by first | exact ⟨_, rfl⟩ | exact drewEx | exact drewEx3⟩
      · go_wp2_with fail
        go_ret
        exact ⟨by rw [HD.out, HG.out, List.drop_eq_nil_of_le (by omega)]; rfl, _, rfl⟩
end Go.Proofs.Ytfncmabjmlmcfaa
