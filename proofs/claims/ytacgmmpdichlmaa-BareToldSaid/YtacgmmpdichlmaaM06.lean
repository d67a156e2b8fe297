/-
  The reference's One, Check at any text: how many bytes a rune has; where there is none. Its condition: a text has at most 65536 bytes.
-/
import Derived.Test.YtacgmmpdichlmaaM02
namespace Go.Proofs.Ytacgmmpdichlmaa
open Go.RowKit

def moreI (c : Int) : Int := if c < 128 then 0 else if 194 ≤ c ∧ c ≤ 223 then 1 else if 224 ≤ c ∧ c ≤ 239 then 2 else if 240 ≤ c ∧ c ≤ 244 then 3 else -1
theorem ret_int {a b : Int} (h : a = b) : Ending.returned (.int .i64 a) = .returned (.int .i64 b) := by rw [h]
theorem more_x (c : Int) (w : World) : Calls Try.prog 60 #[.int .u8 c] w fun e w' => e = .returned (.int .i64 (moreI c)) ∧ w' = w := by
  go_enter Try.func60, Try.ntmps60
  go_wp2_with fail
  all_goals
    go_ret
    exact ⟨ret_int (by unfold moreI; (repeat' split) <;> omega), rfl⟩
theorem moreI_cases (c : Int) : moreI c = 0 ∨ moreI c = 1 ∨ moreI c = 2 ∨ moreI c = 3 ∨ moreI c = -1 := by
  unfold moreI
  repeat' split
  all_goals omega
set_option maxRecDepth 100000 in
set_option maxHeartbeats 4000000 in
theorem oneRune_any (s : ByteArray) (w : World) (hs : s.size ≤ 65536) (h0 : 0 < s.size) : Calls Try.prog 49 #[.string s] w fun e w' => (∃ n : Nat, e = .returned (.int .i64 n) ∧ n ≤ s.size) ∧ Below w.heap.size w w' := by
  have hne := toList_ne h0
  have hie := isEmpty_no h0
  have hse : ¬ s = ByteArray.empty := by rintro rfl; exact absurd h0 (by decide)
  obtain ⟨c, hc, hc0, hc1⟩ : ∃ c : Nat, s[0].toNat = c ∧ 0 ≤ c ∧ c ≤ 255 := ⟨_, rfl, Nat.zero_le _, by have := s[0].toNat_lt; omega⟩
  obtain ⟨n, hn⟩ : ∃ n, moreI c = n := ⟨_, rfl⟩
  have hcs := moreI_cases c
  rw [hn] at hcs
  have HN := hide hn
  clear hn
  rcases hcs with rfl | rfl | rfl | rfl | rfl
  case inr.inr.inr.inr =>
    go_enter Try.func49, Try.ntmps49
    go_wp2_with fail
    refine (more_x c w).mono ?_
    rintro e w1 ⟨rfl, rfl⟩
    rw [HN.out]
    go_wp2_with fail
    go_ret
    exact ⟨⟨0, rfl, by omega⟩, Below.refl _ _⟩
  case inl =>
    have ha : s[0].toNat < 128 := by
      have h := HN.out
      unfold moreI at h
      split at h
      · omega
      · (repeat' split at h) <;> omega
    exact (one_ascii s w hs h0 ha).mono fun _ _ h => ⟨⟨1, h.1, by omega⟩, h.2⟩
  case inr.inl =>
    by_cases h1 : 1 < s.size
    · have h1i : ¬ ((s.size : Int) ≤ 1) := by omega
      go_enter Try.func49, Try.ntmps49
      go_wp2_with fail
      refine (more_x c w).mono ?_
      rintro e w1 ⟨rfl, rfl⟩
      rw [HN.out]
      go_wp2_with fail
      refine (more_x c w1).mono ?_
      rintro e w2 ⟨rfl, rfl⟩
      rw [HN.out]
      go_wp2_with fail
      refine (more_x c w2).mono ?_
      rintro e w3 ⟨rfl, rfl⟩
      rw [HN.out]
      go_wp2_with fail
      go_loopw [4, 5] (fun z i wr => ∃ k r : Nat, z = .int .i64 r ∧ i = .int .i64 k ∧ ((k = 1 ∧ r < 64) ∨ (k = 2 ∧ r < 4096)) ∧ wr = w3) (fun _ i _ => 5 - (intOf i).toNat)
      case atStart => exact ⟨1, c % 32, by go_num, rfl, Or.inl ⟨rfl, by omega⟩, rfl⟩
      case round =>
        obtain ⟨k, r, rfl, rfl, hkr, rfl⟩ := hrel
        rcases hkr with ⟨rfl, hr⟩ | ⟨rfl, hr⟩
        · have hj : (1 : Int) < (s.size : Int) := by omega
          obtain ⟨x, hx, hx1⟩ : ∃ x : Nat, s[1].toNat = x ∧ x ≤ 255 := ⟨_, rfl, by have := s[1].toNat_lt; omega⟩
          go_wp2_with fail
          all_goals first
            | (go_ret; exact ⟨⟨0, rfl, by omega⟩, Below.refl _ _⟩)
            | (go_roundw
               case rel => exact ⟨2, 64 * r + x % 64, by go_num, rfl, Or.inr (⟨rfl, by omega⟩), trivial⟩
               case measure => simp [intOf])
        · go_wp2_with fail
          all_goals first
            | (go_ret; exact ⟨⟨0, rfl, by omega⟩, (Below.refl _ _).alloc (Nat.le_refl _) _⟩)
            | (go_ret; exact ⟨⟨2, rfl, by omega⟩, (Below.refl _ _).alloc (Nat.le_refl _) _⟩)
    · have h1i : ((s.size : Int) ≤ 1) := by omega
      go_enter Try.func49, Try.ntmps49
      go_wp2_with fail
      refine (more_x c w).mono ?_
      rintro e w1 ⟨rfl, rfl⟩
      rw [HN.out]
      go_wp2_with fail
      refine (more_x c w1).mono ?_
      rintro e w2 ⟨rfl, rfl⟩
      rw [HN.out]
      go_wp2_with fail
      go_ret
      exact ⟨⟨0, rfl, by omega⟩, Below.refl _ _⟩
  case inr.inr.inl =>
    by_cases h1 : 2 < s.size
    · have h1i : ¬ ((s.size : Int) ≤ 2) := by omega
      go_enter Try.func49, Try.ntmps49
      go_wp2_with fail
      refine (more_x c w).mono ?_
      rintro e w1 ⟨rfl, rfl⟩
      rw [HN.out]
      go_wp2_with fail
      refine (more_x c w1).mono ?_
      rintro e w2 ⟨rfl, rfl⟩
      rw [HN.out]
      go_wp2_with fail
      refine (more_x c w2).mono ?_
      rintro e w3 ⟨rfl, rfl⟩
      rw [HN.out]
      go_wp2_with fail
      go_loopw [4, 5] (fun z i wr => ∃ k r : Nat, z = .int .i64 r ∧ i = .int .i64 k ∧ ((k = 1 ∧ r < 64) ∨ (k = 2 ∧ r < 4096) ∨ (k = 3 ∧ r < 262144)) ∧ wr = w3) (fun _ i _ => 5 - (intOf i).toNat)
      case atStart => exact ⟨1, c % 16, by go_num, rfl, Or.inl ⟨rfl, by omega⟩, rfl⟩
      case round =>
        obtain ⟨k, r, rfl, rfl, hkr, rfl⟩ := hrel
        rcases hkr with ⟨rfl, hr⟩ | ⟨rfl, hr⟩ | ⟨rfl, hr⟩
        · have hj : (1 : Int) < (s.size : Int) := by omega
          obtain ⟨x, hx, hx1⟩ : ∃ x : Nat, s[1].toNat = x ∧ x ≤ 255 := ⟨_, rfl, by have := s[1].toNat_lt; omega⟩
          go_wp2_with fail
          all_goals first
            | (go_ret; exact ⟨⟨0, rfl, by omega⟩, Below.refl _ _⟩)
            | (go_roundw
               case rel => exact ⟨2, 64 * r + x % 64, by go_num, rfl, Or.inr (Or.inl ⟨rfl, by omega⟩), trivial⟩
               case measure => simp [intOf])
        · have hj : (2 : Int) < (s.size : Int) := by omega
          obtain ⟨x, hx, hx1⟩ : ∃ x : Nat, s[2].toNat = x ∧ x ≤ 255 := ⟨_, rfl, by have := s[2].toNat_lt; omega⟩
          go_wp2_with fail
          all_goals first
            | (go_ret; exact ⟨⟨0, rfl, by omega⟩, Below.refl _ _⟩)
            | (go_roundw
               case rel => exact ⟨3, 64 * r + x % 64, by go_num, rfl, Or.inr (Or.inr (⟨rfl, by omega⟩)), trivial⟩
               case measure => simp [intOf])
        · go_wp2_with fail
          all_goals first
            | (go_ret; exact ⟨⟨0, rfl, by omega⟩, (Below.refl _ _).alloc (Nat.le_refl _) _⟩)
            | (go_ret; exact ⟨⟨3, rfl, by omega⟩, (Below.refl _ _).alloc (Nat.le_refl _) _⟩)
    · have h1i : ((s.size : Int) ≤ 2) := by omega
      go_enter Try.func49, Try.ntmps49
      go_wp2_with fail
      refine (more_x c w).mono ?_
      rintro e w1 ⟨rfl, rfl⟩
      rw [HN.out]
      go_wp2_with fail
      refine (more_x c w1).mono ?_
      rintro e w2 ⟨rfl, rfl⟩
      rw [HN.out]
      go_wp2_with fail
      go_ret
      exact ⟨⟨0, rfl, by omega⟩, Below.refl _ _⟩
  case inr.inr.inr.inl =>
    by_cases h1 : 3 < s.size
    · have h1i : ¬ ((s.size : Int) ≤ 3) := by omega
      go_enter Try.func49, Try.ntmps49
      go_wp2_with fail
      refine (more_x c w).mono ?_
      rintro e w1 ⟨rfl, rfl⟩
      rw [HN.out]
      go_wp2_with fail
      refine (more_x c w1).mono ?_
      rintro e w2 ⟨rfl, rfl⟩
      rw [HN.out]
      go_wp2_with fail
      refine (more_x c w2).mono ?_
      rintro e w3 ⟨rfl, rfl⟩
      rw [HN.out]
      go_wp2_with fail
      go_loopw [4, 5] (fun z i wr => ∃ k r : Nat, z = .int .i64 r ∧ i = .int .i64 k ∧ ((k = 1 ∧ r < 64) ∨ (k = 2 ∧ r < 4096) ∨ (k = 3 ∧ r < 262144) ∨ (k = 4 ∧ r < 16777216)) ∧ wr = w3) (fun _ i _ => 5 - (intOf i).toNat)
      case atStart => exact ⟨1, c % 8, by go_num, rfl, Or.inl ⟨rfl, by omega⟩, rfl⟩
      case round =>
        obtain ⟨k, r, rfl, rfl, hkr, rfl⟩ := hrel
        rcases hkr with ⟨rfl, hr⟩ | ⟨rfl, hr⟩ | ⟨rfl, hr⟩ | ⟨rfl, hr⟩
        · have hj : (1 : Int) < (s.size : Int) := by omega
          obtain ⟨x, hx, hx1⟩ : ∃ x : Nat, s[1].toNat = x ∧ x ≤ 255 := ⟨_, rfl, by have := s[1].toNat_lt; omega⟩
          go_wp2_with fail
          all_goals first
            | (go_ret; exact ⟨⟨0, rfl, by omega⟩, Below.refl _ _⟩)
            | (go_roundw
               case rel => exact ⟨2, 64 * r + x % 64, by go_num, rfl, Or.inr (Or.inl ⟨rfl, by omega⟩), trivial⟩
               case measure => simp [intOf])
        · have hj : (2 : Int) < (s.size : Int) := by omega
          obtain ⟨x, hx, hx1⟩ : ∃ x : Nat, s[2].toNat = x ∧ x ≤ 255 := ⟨_, rfl, by have := s[2].toNat_lt; omega⟩
          go_wp2_with fail
          all_goals first
            | (go_ret; exact ⟨⟨0, rfl, by omega⟩, Below.refl _ _⟩)
            | (go_roundw
               case rel => exact ⟨3, 64 * r + x % 64, by go_num, rfl, Or.inr (Or.inr (Or.inl ⟨rfl, by omega⟩)), trivial⟩
               case measure => simp [intOf])
        · have hj : (3 : Int) < (s.size : Int) := by omega
          obtain ⟨x, hx, hx1⟩ : ∃ x : Nat, s[3].toNat = x ∧ x ≤ 255 := ⟨_, rfl, by have := s[3].toNat_lt; omega⟩
          go_wp2_with fail
          all_goals first
            | (go_ret; exact ⟨⟨0, rfl, by omega⟩, Below.refl _ _⟩)
            | (go_roundw
               case rel => exact ⟨4, 64 * r + x % 64, by go_num, rfl, Or.inr (Or.inr (Or.inr (⟨rfl, by omega⟩))), trivial⟩
               case measure => simp [intOf])
        · go_wp2_with fail
          all_goals first
            | (go_ret; exact ⟨⟨0, rfl, by omega⟩, (Below.refl _ _).alloc (Nat.le_refl _) _⟩)
            | (go_ret; exact ⟨⟨4, rfl, by omega⟩, (Below.refl _ _).alloc (Nat.le_refl _) _⟩)
    · have h1i : ((s.size : Int) ≤ 3) := by omega
      go_enter Try.func49, Try.ntmps49
      go_wp2_with fail
      refine (more_x c w).mono ?_
      rintro e w1 ⟨rfl, rfl⟩
      rw [HN.out]
      go_wp2_with fail
      refine (more_x c w1).mono ?_
      rintro e w2 ⟨rfl, rfl⟩
      rw [HN.out]
      go_wp2_with fail
      go_ret
      exact ⟨⟨0, rfl, by omega⟩, Below.refl _ _⟩
set_option maxHeartbeats 1000000 in
theorem check_any (s : ByteArray) (w : World) (hs : s.size ≤ 65536) : Calls Try.prog 37 #[.string s] w fun e w' => (∃ n : Int, e = .returned (.int .i64 n) ∧ -1 ≤ n ∧ n ≤ s.size) ∧ Below w.heap.size w w' := by
  go_enter Try.func37, Try.ntmps37
  go_wp2_with fail
  go_loopw [3] (fun n wr => ∃ k : Nat, n = .int .i64 k ∧ k ≤ s.size ∧ Below w.heap.size w wr) (fun n _ => s.size - (intOf n).toNat)
  case atStart => exact ⟨0, rfl, Nat.zero_le _, Below.refl _ _⟩
  case round =>
    obtain ⟨k, rfl, hk, hb⟩ := hrel
    by_cases hlt : k < s.size
    · have hlti : (k : Int) < (s.size : Int) := by omega
      have hx : 0 < (s.extract k s.size).size := by rw [ByteArray.size_extract]; omega
      have HC := hide (oneRune_any (s.extract k s.size) wr (by simp only [ByteArray.size_extract]; omega) hx)
      clear hx
      go_wp2_with fail
      refine HC.out.mono ?_
      rintro e w1 ⟨⟨n, rfl, hn⟩, hb1⟩
      have hb2 : Below w.heap.size w w1 := hb.trans (hb1.mono hb.size)
      rw [ByteArray.size_extract] at hn
      by_cases hn0 : n = 0
      · subst hn0
        go_wp2_with fail
        go_ret
        exact ⟨⟨_, rfl, by omega, by omega⟩, hb2⟩
      · have hnb : ((n : Int) == 0) = false := by simp; omega
        go_wp2_with fail
        go_roundw
        case rel => exact ⟨k + n, by go_num, by omega, hb2⟩
        case measure => simp [intOf]; omega
    · have hlti : ¬ (k : Int) < (s.size : Int) := by omega
      go_wp2_with fail
      go_ret
      exact ⟨⟨-1, rfl, by omega, by omega⟩, hb⟩
end Go.Proofs.Ytacgmmpdichlmaa
