/-
  The reference's Number at any text: a number of bytes. Its condition: the text's length.
-/
import Derived.Test.YtacgmmpdichlmaaGreatM00
namespace Go.Proofs.YtacgmmpdichlmaaGreat
open Go.RowKit

theorem ret_nat {a : Int} {b : Nat} (h : a = b) : Ending.returned (.int .i64 a) = .returned (.int .i64 b) := by rw [h]
set_option maxHeartbeats 8000000 in
theorem number_any (s : ByteArray) (w : World) (hs : s.size ≤ 65536) : Calls Tryz.prog 84 #[.string s] w fun e w' => (∃ n : Nat, e = .returned (.int .i64 n) ∧ n ≤ s.size) ∧ w' = w := by
  by_cases h0 : 0 < s.size
  · have hne := toList_ne h0
    have hie := isEmpty_no h0
    have h0i : (0 : Int) < (s.size : Int) := by omega
    go_enter Tryz.func84, Tryz.ntmps84
    go_wp2_with fail
    refine (digits_any s w (by simp only [maxLen]; omega)).mono ?_
    rintro e w1 ⟨⟨n, rfl, hn, -⟩, rfl⟩
    by_cases hn0 : 0 < n
    · by_cases hlt : n < s.size
      · have hn0i : (0 : Int) < (n : Int) := by omega
        have hlti : (n : Int) < (s.size : Int) := by omega
        cases hdot : ((s[n].toNat : Int) == 46) with
        | false =>
          go_wp2_with fail
          all_goals first
            | (go_ret; exact ⟨⟨n, rfl, by omega⟩, rfl⟩)
            | (refine (digits_at s _ _ hs).mono ?_
               rintro e wx ⟨⟨mx, rfl, hmx⟩, rfl⟩
               go_wp2_with fail
               all_goals first
                 | (go_ret; exact ⟨⟨n, rfl, by omega⟩, rfl⟩)
                 | (refine (digits_at s _ _ hs).mono ?_
                    rintro e wy ⟨⟨my, rfl, hmy⟩, rfl⟩
                    go_wp2_with fail
                    go_ret
                    first | exact ⟨⟨n + 1 + 1 + my, by go_num, by omega⟩, rfl⟩ | exact ⟨⟨n + 1 + my, by go_num, by omega⟩, rfl⟩))
        | true =>
          go_wp2_with fail
          refine (digits_at s _ _ hs).mono ?_
          rintro e w2 ⟨⟨m, rfl, hm⟩, rfl⟩
          obtain ⟨q, hq⟩ : ∃ q : Nat, q = n + (1 + m) := ⟨_, rfl⟩
          have hqs : q ≤ s.size := by omega
          have hqi : (n : Int) + (1 + (m : Int)) = (q : Int) := by omega
          clear hq
          go_wp2_with fail
          all_goals first
            | (go_ret; exact ⟨⟨q, rfl, by omega⟩, rfl⟩)
            | (refine (digits_at s _ _ hs).mono ?_
               rintro e wx ⟨⟨mx, rfl, hmx⟩, rfl⟩
               go_wp2_with fail
               all_goals first
                 | (go_ret; exact ⟨⟨q, rfl, by omega⟩, rfl⟩)
                 | (refine (digits_at s _ _ hs).mono ?_
                    rintro e wy ⟨⟨my, rfl, hmy⟩, rfl⟩
                    go_wp2_with fail
                    go_ret
                    first | exact ⟨⟨q + 1 + 1 + my, by go_num, by omega⟩, rfl⟩ | exact ⟨⟨q + 1 + my, by go_num, by omega⟩, rfl⟩))
      · have hlti : ¬ (n : Int) < (s.size : Int) := by omega
        have hn0i : (0 : Int) < (n : Int) := by omega
        go_wp2_with fail
        all_goals first
          | (go_ret; exact ⟨⟨n, rfl, by omega⟩, rfl⟩)
          | (refine (digits_at s _ _ hs).mono ?_
             rintro e wx ⟨⟨mx, rfl, hmx⟩, rfl⟩
             go_wp2_with fail
             all_goals first
               | (go_ret; exact ⟨⟨n, rfl, by omega⟩, rfl⟩)
               | (refine (digits_at s _ _ hs).mono ?_
                  rintro e wy ⟨⟨my, rfl, hmy⟩, rfl⟩
                  go_wp2_with fail
                  go_ret
                  first | exact ⟨⟨n + 1 + 1 + my, by go_num, by omega⟩, rfl⟩ | exact ⟨⟨n + 1 + my, by go_num, by omega⟩, rfl⟩))
    · obtain rfl : n = 0 := by omega
      cases hdot : ((s[0].toNat : Int) != 46) with
      | true =>
        go_wp2_with fail
        all_goals
          go_ret
          exact ⟨⟨0, rfl, Nat.zero_le _⟩, rfl⟩
      | false =>
        go_wp2_with fail
        refine (digits_at s 1 _ hs).mono ?_
        rintro e w2 ⟨⟨m, rfl, hm⟩, rfl⟩
        by_cases hm0 : m = 0
        · subst hm0
          go_wp2_with fail
          all_goals
            go_ret
            exact ⟨⟨0, rfl, Nat.zero_le _⟩, rfl⟩
        · have hm0i : ((m : Int) == 0) = false := by simp; omega
          go_wp2_with fail
          refine (digits_at s 1 _ hs).mono ?_
          rintro e w3 ⟨⟨m2, rfl, hm2⟩, rfl⟩
          obtain ⟨q, hq⟩ : ∃ q : Nat, q = 1 + m2 := ⟨_, rfl⟩
          have hqs : q ≤ s.size := by omega
          have hqi : 1 + (m2 : Int) = (q : Int) := by omega
          clear hq
          go_wp2_with fail
          all_goals first
            | (go_ret; exact ⟨⟨q, rfl, by omega⟩, rfl⟩)
            | (refine (digits_at s _ _ hs).mono ?_
               rintro e wx ⟨⟨mx, rfl, hmx⟩, rfl⟩
               go_wp2_with fail
               all_goals first
                 | (go_ret; exact ⟨⟨q, rfl, by omega⟩, rfl⟩)
                 | (refine (digits_at s _ _ hs).mono ?_
                    rintro e wy ⟨⟨my, rfl, hmy⟩, rfl⟩
                    go_wp2_with fail
                    go_ret
                    first | exact ⟨⟨q + 1 + 1 + my, by go_num, by omega⟩, rfl⟩ | exact ⟨⟨q + 1 + my, by go_num, by omega⟩, rfl⟩))
  · have hne := toList_no h0
    go_enter Tryz.func84, Tryz.ntmps84
    go_wp2_with fail
    refine (digits_any s w (by simp only [maxLen]; omega)).mono ?_
    rintro e w1 ⟨⟨n, rfl, hn, -⟩, rfl⟩
    obtain rfl : n = 0 := by omega
    go_wp2_with fail
    all_goals
      go_ret
      exact ⟨⟨0, rfl, Nat.zero_le _⟩, rfl⟩
end Go.Proofs.YtacgmmpdichlmaaGreat
