/-
  The program's Right of a document.
  Its condition: the value reads as a document.
-/
import Derived.Test.YtggbocimapdidaaIndex
namespace Go.Proofs.Ytggbocimapdidaa
open Go.RowKit Go.WideShapes

def RightOk (d : Dc) : Prop := ∀ (v : Value) (w : World), IsDc w (· < w.heap.size) d v → Calls Try.prog 18 #[v] w (Says (rightD d) w)

theorem wrong_any (d : Dc) (hd : RightOk d) (v : Value) (w : World) (h : IsDc w (· < w.heap.size) d v) : Calls Try.prog 36 #[v] w (Says (!rightD d) w) := by
  obtain ⟨k, s, n, a, m, cap, rfl⟩ := h.form
  obtain ⟨W, hW⟩ : ∃ W, w.alloc (.cells #[.int .i64 k, .string s, .int .i64 n, .slice a m cap] 25) = W := ⟨_, rfl⟩
  have bW : Blk W w.heap.size 25 #[.int .i64 k, .string s, .int .i64 n, .slice a m cap] := hW ▸ Blk.new w 25 _
  have hbW : Below w.heap.size w W := hW ▸ (Below.refl _ w).alloc (Nat.le_refl _) _
  have hzW : w.heap.size ≤ W.heap.size := hbW.size
  have HC := hide (hd _ W (h.below hbW hzW))
  obtain ⟨b0, b1, b2, b3⟩ := bW.four
  clear bW h
  go_enter Try.func36, Try.ntmps36
  go_wp2_with fail
  refine (unhide HC).mono ?_
  rintro e w1 ⟨rfl, hb⟩
  cases hx : rightD d with
  | true =>
    go_wp2_with fail
    go_ret
    exact ⟨by rw [hx]; rfl, hbW.trans (hb.mono hzW)⟩
  | false =>
    go_wp2_with fail
    go_ret
    exact ⟨by rw [hx]; rfl, hbW.trans (hb.mono hzW)⟩
theorem not_any {p : Dc → Bool} : ∀ ds : List Dc, (!ds.any fun d => !p d) = ds.all p
  | [] => rfl
  | d :: ds => by rw [List.any_cons, List.all_cons, ← not_any ds]; cases p d <;> simp

set_option maxHeartbeats 4000000 in
theorem right_k0 (s : ByteArray) (n : Int) (ks : Dcs) (a : Option Addr) (cap : Nat) (w : World) (hn : -9223372036854775808 ≤ n ∧ n ≤ 9223372036854775807) (hs : s.size ≤ maxLen) (hl : ks.len ≤ maxLen) (hks : ks.len ≠ 0 → ∃ b o, a = some ⟨b, o, none⟩ ∧ b < w.heap.size ∧ IsDcs w (· < w.heap.size) b o ks) (IH : ∀ d ∈ ks.toL, RightOk d) : Calls Try.prog 18 #[.agg #[.int .i64 0, .string s, .int .i64 n, .slice a ks.len cap]] w (Says (rightD (.mk 0 s n ks)) w) := by
  have hl0 := hl
  simp only [maxLen] at hl
  obtain ⟨m, hm⟩ : ∃ m, ks.len = m := ⟨_, rfl⟩
  rw [hm] at hl hl0 ⊢
  by_cases h0 : s = ByteArray.empty
  · subst h0
    by_cases n0 : n = 0
    · subst n0
      by_cases m1 : m = 0
      · subst m1
        have HT := hide (rightD_yes (k := 0) (s := ByteArray.empty) (n := 0) (ks := ks) (by simp [topB, isEmpty_true, hm]))
        have bW := Blk.new w 25 #[.int .i64 0, .string ByteArray.empty, .int .i64 0, .slice a 0 cap]
        have hbW : Below w.heap.size w (w.alloc (.cells #[.int .i64 0, .string ByteArray.empty, .int .i64 0, .slice a 0 cap] 25)) := (Below.refl _ w).alloc (Nat.le_refl _) _
        unfold Says; rw [HT.out]; clear HT
        have HM := hide hm
        clear hm
        obtain ⟨W, hW⟩ : ∃ W, w.alloc (.cells #[.int .i64 0, .string ByteArray.empty, .int .i64 0, .slice a 0 cap] 25) = W := ⟨_, rfl⟩
        rw [hW] at bW hbW
        have hzW : w.heap.size ≤ W.heap.size := hbW.size
        obtain ⟨b0, b1, b2, b3⟩ := bW.four
        clear bW
        have hsl : IsSl W (· < W.heap.size) ks.toL (.slice a 0 cap) := IsSl.keep (fun x hx => ⟨Nat.lt_of_lt_of_le hx hzW, hbW.block x hx⟩) (show IsSl w (· < w.heap.size) ks.toL (.slice a 0 cap) from ⟨a, cap, by rw [Dcs.len_toL, HM.out], by rw [Dcs.len_toL, HM.out]; exact hl0, fun hne => by rw [Dcs.ofL_toL]; exact hks (by rwa [Dcs.len_toL] at hne)⟩)
        have HC := hide (contains_any (fun d => !rightD d) (· < W.heap.size) ks.toL _ W (fun _ h => h) hsl (fun d hd v w1 h1 => wrong_any d (IH d hd) v w1 h1))
        have HN := hide (not_any (p := rightD) ks.toL)
        clear hsl
        go_enter Try.func18, Try.ntmps18
        go_wp2_with fail
        refine (unhide HC).mono ?_
        rintro e w1 ⟨rfl, hb⟩
        cases hx : ks.toL.any fun d => !rightD d with
        | true =>
          go_wp2_with fail
          go_ret
          exact ⟨by rw [← HN.out, hx]; rfl, hbW.trans (hb.mono hzW)⟩
        | false =>
          go_wp2_with fail
          go_ret
          exact ⟨by rw [← HN.out, hx]; rfl, hbW.trans (hb.mono hzW)⟩
      · have m1' : ((m : Int) == 0) = false := beq_eq_false_iff_ne.2 (by omega)
        have HT := hide (rightD_no (k := 0) (s := ByteArray.empty) (n := 0) (ks := ks) (by simp [topB, isEmpty_true, hm, m1]))
        have bW := Blk.new w 25 #[.int .i64 0, .string ByteArray.empty, .int .i64 0, .slice a m cap]
        have hbW : Below w.heap.size w (w.alloc (.cells #[.int .i64 0, .string ByteArray.empty, .int .i64 0, .slice a m cap] 25)) := (Below.refl _ w).alloc (Nat.le_refl _) _
        unfold Says; rw [HT.out]; clear HT
        clear hm
        go_enter Try.func18, Try.ntmps18
        go_wp2_with fail
        go_ret
        exact ⟨rfl, hbW⟩
    · have n0' : (n == 0) = false := beq_eq_false_iff_ne.2 n0
      have HT := hide (rightD_no (k := 0) (s := ByteArray.empty) (n := n) (ks := ks) (by simp [topB, isEmpty_true, n0]))
      have bW := Blk.new w 25 #[.int .i64 0, .string ByteArray.empty, .int .i64 n, .slice a m cap]
      have hbW : Below w.heap.size w (w.alloc (.cells #[.int .i64 0, .string ByteArray.empty, .int .i64 n, .slice a m cap] 25)) := (Below.refl _ w).alloc (Nat.le_refl _) _
      unfold Says; rw [HT.out]; clear HT
      clear hm
      go_enter Try.func18, Try.ntmps18
      go_wp2_with fail
      go_ret
      exact ⟨rfl, hbW⟩
  · have e1 := isEmpty_false h0
    clear h0
    have HT := hide (rightD_no (k := 0) (s := s) (n := n) (ks := ks) (by simp [topB, e1]))
    have bW := Blk.new w 25 #[.int .i64 0, .string s, .int .i64 n, .slice a m cap]
    have hbW : Below w.heap.size w (w.alloc (.cells #[.int .i64 0, .string s, .int .i64 n, .slice a m cap] 25)) := (Below.refl _ w).alloc (Nat.le_refl _) _
    unfold Says; rw [HT.out]; clear HT
    clear hm
    go_enter Try.func18, Try.ntmps18
    go_wp2_with fail
    go_ret
    exact ⟨rfl, hbW⟩

set_option maxHeartbeats 4000000 in
theorem right_k1 (s : ByteArray) (n : Int) (ks : Dcs) (a : Option Addr) (cap : Nat) (w : World) (hn : -9223372036854775808 ≤ n ∧ n ≤ 9223372036854775807) (hs : s.size ≤ maxLen) (hl : ks.len ≤ maxLen) (hks : ks.len ≠ 0 → ∃ b o, a = some ⟨b, o, none⟩ ∧ b < w.heap.size ∧ IsDcs w (· < w.heap.size) b o ks) (IH : ∀ d ∈ ks.toL, RightOk d) : Calls Try.prog 18 #[.agg #[.int .i64 1, .string s, .int .i64 n, .slice a ks.len cap]] w (Says (rightD (.mk 1 s n ks)) w) := by
  have hl0 := hl
  simp only [maxLen] at hl
  obtain ⟨m, hm⟩ : ∃ m, ks.len = m := ⟨_, rfl⟩
  rw [hm] at hl hl0 ⊢
  by_cases h0 : s = ByteArray.empty
  · subst h0
    have HT := hide (rightD_no (k := 1) (s := ByteArray.empty) (n := n) (ks := ks) (by simp [topB, isEmpty_true]))
    have bW := Blk.new w 25 #[.int .i64 1, .string ByteArray.empty, .int .i64 n, .slice a m cap]
    have hbW : Below w.heap.size w (w.alloc (.cells #[.int .i64 1, .string ByteArray.empty, .int .i64 n, .slice a m cap] 25)) := (Below.refl _ w).alloc (Nat.le_refl _) _
    unfold Says; rw [HT.out]; clear HT
    clear hm
    go_enter Try.func18, Try.ntmps18
    go_wp2_with fail
    go_ret
    exact ⟨rfl, hbW⟩
  · have e1 := isEmpty_false h0
    clear h0
    by_cases n0 : n = 0
    · subst n0
      by_cases m1 : m = 0
      · subst m1
        have HT := hide (rightD_yes (k := 1) (s := s) (n := 0) (ks := ks) (by simp [topB, e1, hm]))
        have bW := Blk.new w 25 #[.int .i64 1, .string s, .int .i64 0, .slice a 0 cap]
        have hbW : Below w.heap.size w (w.alloc (.cells #[.int .i64 1, .string s, .int .i64 0, .slice a 0 cap] 25)) := (Below.refl _ w).alloc (Nat.le_refl _) _
        unfold Says; rw [HT.out]; clear HT
        have HM := hide hm
        clear hm
        obtain ⟨W, hW⟩ : ∃ W, w.alloc (.cells #[.int .i64 1, .string s, .int .i64 0, .slice a 0 cap] 25) = W := ⟨_, rfl⟩
        rw [hW] at bW hbW
        have hzW : w.heap.size ≤ W.heap.size := hbW.size
        obtain ⟨b0, b1, b2, b3⟩ := bW.four
        clear bW
        have hsl : IsSl W (· < W.heap.size) ks.toL (.slice a 0 cap) := IsSl.keep (fun x hx => ⟨Nat.lt_of_lt_of_le hx hzW, hbW.block x hx⟩) (show IsSl w (· < w.heap.size) ks.toL (.slice a 0 cap) from ⟨a, cap, by rw [Dcs.len_toL, HM.out], by rw [Dcs.len_toL, HM.out]; exact hl0, fun hne => by rw [Dcs.ofL_toL]; exact hks (by rwa [Dcs.len_toL] at hne)⟩)
        have HC := hide (contains_any (fun d => !rightD d) (· < W.heap.size) ks.toL _ W (fun _ h => h) hsl (fun d hd v w1 h1 => wrong_any d (IH d hd) v w1 h1))
        have HN := hide (not_any (p := rightD) ks.toL)
        clear hsl
        go_enter Try.func18, Try.ntmps18
        go_wp2_with fail
        refine (unhide HC).mono ?_
        rintro e w1 ⟨rfl, hb⟩
        cases hx : ks.toL.any fun d => !rightD d with
        | true =>
          go_wp2_with fail
          go_ret
          exact ⟨by rw [← HN.out, hx]; rfl, hbW.trans (hb.mono hzW)⟩
        | false =>
          go_wp2_with fail
          go_ret
          exact ⟨by rw [← HN.out, hx]; rfl, hbW.trans (hb.mono hzW)⟩
      · have m1' : ((m : Int) == 0) = false := beq_eq_false_iff_ne.2 (by omega)
        have HT := hide (rightD_no (k := 1) (s := s) (n := 0) (ks := ks) (by simp [topB, e1, hm, m1]))
        have bW := Blk.new w 25 #[.int .i64 1, .string s, .int .i64 0, .slice a m cap]
        have hbW : Below w.heap.size w (w.alloc (.cells #[.int .i64 1, .string s, .int .i64 0, .slice a m cap] 25)) := (Below.refl _ w).alloc (Nat.le_refl _) _
        unfold Says; rw [HT.out]; clear HT
        clear hm
        go_enter Try.func18, Try.ntmps18
        go_wp2_with fail
        go_ret
        exact ⟨rfl, hbW⟩
    · have n0' : (n == 0) = false := beq_eq_false_iff_ne.2 n0
      have HT := hide (rightD_no (k := 1) (s := s) (n := n) (ks := ks) (by simp [topB, e1, n0]))
      have bW := Blk.new w 25 #[.int .i64 1, .string s, .int .i64 n, .slice a m cap]
      have hbW : Below w.heap.size w (w.alloc (.cells #[.int .i64 1, .string s, .int .i64 n, .slice a m cap] 25)) := (Below.refl _ w).alloc (Nat.le_refl _) _
      unfold Says; rw [HT.out]; clear HT
      clear hm
      go_enter Try.func18, Try.ntmps18
      go_wp2_with fail
      go_ret
      exact ⟨rfl, hbW⟩

set_option maxHeartbeats 4000000 in
theorem right_k2 (s : ByteArray) (n : Int) (ks : Dcs) (a : Option Addr) (cap : Nat) (w : World) (hn : -9223372036854775808 ≤ n ∧ n ≤ 9223372036854775807) (hs : s.size ≤ maxLen) (hl : ks.len ≤ maxLen) (hks : ks.len ≠ 0 → ∃ b o, a = some ⟨b, o, none⟩ ∧ b < w.heap.size ∧ IsDcs w (· < w.heap.size) b o ks) (IH : ∀ d ∈ ks.toL, RightOk d) : Calls Try.prog 18 #[.agg #[.int .i64 2, .string s, .int .i64 n, .slice a ks.len cap]] w (Says (rightD (.mk 2 s n ks)) w) := by
  have hl0 := hl
  simp only [maxLen] at hl
  obtain ⟨m, hm⟩ : ∃ m, ks.len = m := ⟨_, rfl⟩
  rw [hm] at hl hl0 ⊢
  by_cases h0 : s = ByteArray.empty
  · subst h0
    by_cases n0 : n = 0
    · subst n0
      by_cases m1 : m = 0
      · subst m1
        have HT := hide (rightD_yes (k := 2) (s := ByteArray.empty) (n := 0) (ks := ks) (by simp [topB, isEmpty_true, hm]))
        have bW := Blk.new w 25 #[.int .i64 2, .string ByteArray.empty, .int .i64 0, .slice a 0 cap]
        have hbW : Below w.heap.size w (w.alloc (.cells #[.int .i64 2, .string ByteArray.empty, .int .i64 0, .slice a 0 cap] 25)) := (Below.refl _ w).alloc (Nat.le_refl _) _
        unfold Says; rw [HT.out]; clear HT
        have HM := hide hm
        clear hm
        obtain ⟨W, hW⟩ : ∃ W, w.alloc (.cells #[.int .i64 2, .string ByteArray.empty, .int .i64 0, .slice a 0 cap] 25) = W := ⟨_, rfl⟩
        rw [hW] at bW hbW
        have hzW : w.heap.size ≤ W.heap.size := hbW.size
        obtain ⟨b0, b1, b2, b3⟩ := bW.four
        clear bW
        have hsl : IsSl W (· < W.heap.size) ks.toL (.slice a 0 cap) := IsSl.keep (fun x hx => ⟨Nat.lt_of_lt_of_le hx hzW, hbW.block x hx⟩) (show IsSl w (· < w.heap.size) ks.toL (.slice a 0 cap) from ⟨a, cap, by rw [Dcs.len_toL, HM.out], by rw [Dcs.len_toL, HM.out]; exact hl0, fun hne => by rw [Dcs.ofL_toL]; exact hks (by rwa [Dcs.len_toL] at hne)⟩)
        have HC := hide (contains_any (fun d => !rightD d) (· < W.heap.size) ks.toL _ W (fun _ h => h) hsl (fun d hd v w1 h1 => wrong_any d (IH d hd) v w1 h1))
        have HN := hide (not_any (p := rightD) ks.toL)
        clear hsl
        go_enter Try.func18, Try.ntmps18
        go_wp2_with fail
        refine (unhide HC).mono ?_
        rintro e w1 ⟨rfl, hb⟩
        cases hx : ks.toL.any fun d => !rightD d with
        | true =>
          go_wp2_with fail
          go_ret
          exact ⟨by rw [← HN.out, hx]; rfl, hbW.trans (hb.mono hzW)⟩
        | false =>
          go_wp2_with fail
          go_ret
          exact ⟨by rw [← HN.out, hx]; rfl, hbW.trans (hb.mono hzW)⟩
      · have m1' : ((m : Int) == 0) = false := beq_eq_false_iff_ne.2 (by omega)
        have HT := hide (rightD_no (k := 2) (s := ByteArray.empty) (n := 0) (ks := ks) (by simp [topB, isEmpty_true, hm, m1]))
        have bW := Blk.new w 25 #[.int .i64 2, .string ByteArray.empty, .int .i64 0, .slice a m cap]
        have hbW : Below w.heap.size w (w.alloc (.cells #[.int .i64 2, .string ByteArray.empty, .int .i64 0, .slice a m cap] 25)) := (Below.refl _ w).alloc (Nat.le_refl _) _
        unfold Says; rw [HT.out]; clear HT
        clear hm
        go_enter Try.func18, Try.ntmps18
        go_wp2_with fail
        go_ret
        exact ⟨rfl, hbW⟩
    · have n0' : (n == 0) = false := beq_eq_false_iff_ne.2 n0
      have HT := hide (rightD_no (k := 2) (s := ByteArray.empty) (n := n) (ks := ks) (by simp [topB, isEmpty_true, n0]))
      have bW := Blk.new w 25 #[.int .i64 2, .string ByteArray.empty, .int .i64 n, .slice a m cap]
      have hbW : Below w.heap.size w (w.alloc (.cells #[.int .i64 2, .string ByteArray.empty, .int .i64 n, .slice a m cap] 25)) := (Below.refl _ w).alloc (Nat.le_refl _) _
      unfold Says; rw [HT.out]; clear HT
      clear hm
      go_enter Try.func18, Try.ntmps18
      go_wp2_with fail
      go_ret
      exact ⟨rfl, hbW⟩
  · have e1 := isEmpty_false h0
    clear h0
    have HT := hide (rightD_no (k := 2) (s := s) (n := n) (ks := ks) (by simp [topB, e1]))
    have bW := Blk.new w 25 #[.int .i64 2, .string s, .int .i64 n, .slice a m cap]
    have hbW : Below w.heap.size w (w.alloc (.cells #[.int .i64 2, .string s, .int .i64 n, .slice a m cap] 25)) := (Below.refl _ w).alloc (Nat.le_refl _) _
    unfold Says; rw [HT.out]; clear HT
    clear hm
    go_enter Try.func18, Try.ntmps18
    go_wp2_with fail
    go_ret
    exact ⟨rfl, hbW⟩

set_option maxHeartbeats 4000000 in
theorem right_k3 (s : ByteArray) (n : Int) (ks : Dcs) (a : Option Addr) (cap : Nat) (w : World) (hn : -9223372036854775808 ≤ n ∧ n ≤ 9223372036854775807) (hs : s.size ≤ maxLen) (hl : ks.len ≤ maxLen) (hks : ks.len ≠ 0 → ∃ b o, a = some ⟨b, o, none⟩ ∧ b < w.heap.size ∧ IsDcs w (· < w.heap.size) b o ks) (IH : ∀ d ∈ ks.toL, RightOk d) : Calls Try.prog 18 #[.agg #[.int .i64 3, .string s, .int .i64 n, .slice a ks.len cap]] w (Says (rightD (.mk 3 s n ks)) w) := by
  have hl0 := hl
  simp only [maxLen] at hl
  obtain ⟨m, hm⟩ : ∃ m, ks.len = m := ⟨_, rfl⟩
  rw [hm] at hl hl0 ⊢
  by_cases h0 : s = ByteArray.empty
  · subst h0
    by_cases n0 : n = 0
    · subst n0
      by_cases m1 : m = 0
      · subst m1
        have HT := hide (rightD_yes (k := 3) (s := ByteArray.empty) (n := 0) (ks := ks) (by simp [topB, isEmpty_true, hm]))
        have bW := Blk.new w 25 #[.int .i64 3, .string ByteArray.empty, .int .i64 0, .slice a 0 cap]
        have hbW : Below w.heap.size w (w.alloc (.cells #[.int .i64 3, .string ByteArray.empty, .int .i64 0, .slice a 0 cap] 25)) := (Below.refl _ w).alloc (Nat.le_refl _) _
        unfold Says; rw [HT.out]; clear HT
        have HM := hide hm
        clear hm
        obtain ⟨W, hW⟩ : ∃ W, w.alloc (.cells #[.int .i64 3, .string ByteArray.empty, .int .i64 0, .slice a 0 cap] 25) = W := ⟨_, rfl⟩
        rw [hW] at bW hbW
        have hzW : w.heap.size ≤ W.heap.size := hbW.size
        obtain ⟨b0, b1, b2, b3⟩ := bW.four
        clear bW
        have hsl : IsSl W (· < W.heap.size) ks.toL (.slice a 0 cap) := IsSl.keep (fun x hx => ⟨Nat.lt_of_lt_of_le hx hzW, hbW.block x hx⟩) (show IsSl w (· < w.heap.size) ks.toL (.slice a 0 cap) from ⟨a, cap, by rw [Dcs.len_toL, HM.out], by rw [Dcs.len_toL, HM.out]; exact hl0, fun hne => by rw [Dcs.ofL_toL]; exact hks (by rwa [Dcs.len_toL] at hne)⟩)
        have HC := hide (contains_any (fun d => !rightD d) (· < W.heap.size) ks.toL _ W (fun _ h => h) hsl (fun d hd v w1 h1 => wrong_any d (IH d hd) v w1 h1))
        have HN := hide (not_any (p := rightD) ks.toL)
        clear hsl
        go_enter Try.func18, Try.ntmps18
        go_wp2_with fail
        refine (unhide HC).mono ?_
        rintro e w1 ⟨rfl, hb⟩
        cases hx : ks.toL.any fun d => !rightD d with
        | true =>
          go_wp2_with fail
          go_ret
          exact ⟨by rw [← HN.out, hx]; rfl, hbW.trans (hb.mono hzW)⟩
        | false =>
          go_wp2_with fail
          go_ret
          exact ⟨by rw [← HN.out, hx]; rfl, hbW.trans (hb.mono hzW)⟩
      · have m1' : ((m : Int) == 0) = false := beq_eq_false_iff_ne.2 (by omega)
        have HT := hide (rightD_no (k := 3) (s := ByteArray.empty) (n := 0) (ks := ks) (by simp [topB, isEmpty_true, hm, m1]))
        have bW := Blk.new w 25 #[.int .i64 3, .string ByteArray.empty, .int .i64 0, .slice a m cap]
        have hbW : Below w.heap.size w (w.alloc (.cells #[.int .i64 3, .string ByteArray.empty, .int .i64 0, .slice a m cap] 25)) := (Below.refl _ w).alloc (Nat.le_refl _) _
        unfold Says; rw [HT.out]; clear HT
        clear hm
        go_enter Try.func18, Try.ntmps18
        go_wp2_with fail
        go_ret
        exact ⟨rfl, hbW⟩
    · have n0' : (n == 0) = false := beq_eq_false_iff_ne.2 n0
      have HT := hide (rightD_no (k := 3) (s := ByteArray.empty) (n := n) (ks := ks) (by simp [topB, isEmpty_true, n0]))
      have bW := Blk.new w 25 #[.int .i64 3, .string ByteArray.empty, .int .i64 n, .slice a m cap]
      have hbW : Below w.heap.size w (w.alloc (.cells #[.int .i64 3, .string ByteArray.empty, .int .i64 n, .slice a m cap] 25)) := (Below.refl _ w).alloc (Nat.le_refl _) _
      unfold Says; rw [HT.out]; clear HT
      clear hm
      go_enter Try.func18, Try.ntmps18
      go_wp2_with fail
      go_ret
      exact ⟨rfl, hbW⟩
  · have e1 := isEmpty_false h0
    clear h0
    have HT := hide (rightD_no (k := 3) (s := s) (n := n) (ks := ks) (by simp [topB, e1]))
    have bW := Blk.new w 25 #[.int .i64 3, .string s, .int .i64 n, .slice a m cap]
    have hbW : Below w.heap.size w (w.alloc (.cells #[.int .i64 3, .string s, .int .i64 n, .slice a m cap] 25)) := (Below.refl _ w).alloc (Nat.le_refl _) _
    unfold Says; rw [HT.out]; clear HT
    clear hm
    go_enter Try.func18, Try.ntmps18
    go_wp2_with fail
    go_ret
    exact ⟨rfl, hbW⟩

set_option maxHeartbeats 4000000 in
theorem right_k4 (s : ByteArray) (n : Int) (ks : Dcs) (a : Option Addr) (cap : Nat) (w : World) (hn : -9223372036854775808 ≤ n ∧ n ≤ 9223372036854775807) (hs : s.size ≤ maxLen) (hl : ks.len ≤ maxLen) (hks : ks.len ≠ 0 → ∃ b o, a = some ⟨b, o, none⟩ ∧ b < w.heap.size ∧ IsDcs w (· < w.heap.size) b o ks) (IH : ∀ d ∈ ks.toL, RightOk d) : Calls Try.prog 18 #[.agg #[.int .i64 4, .string s, .int .i64 n, .slice a ks.len cap]] w (Says (rightD (.mk 4 s n ks)) w) := by
  have hl0 := hl
  simp only [maxLen] at hl
  obtain ⟨m, hm⟩ : ∃ m, ks.len = m := ⟨_, rfl⟩
  rw [hm] at hl hl0 ⊢
  by_cases h0 : s = ByteArray.empty
  · subst h0
    by_cases n0 : n = 0
    · subst n0
      by_cases m1 : m = 0
      · subst m1
        have HT := hide (rightD_yes (k := 4) (s := ByteArray.empty) (n := 0) (ks := ks) (by simp [topB, isEmpty_true, hm]))
        have bW := Blk.new w 25 #[.int .i64 4, .string ByteArray.empty, .int .i64 0, .slice a 0 cap]
        have hbW : Below w.heap.size w (w.alloc (.cells #[.int .i64 4, .string ByteArray.empty, .int .i64 0, .slice a 0 cap] 25)) := (Below.refl _ w).alloc (Nat.le_refl _) _
        unfold Says; rw [HT.out]; clear HT
        have HM := hide hm
        clear hm
        obtain ⟨W, hW⟩ : ∃ W, w.alloc (.cells #[.int .i64 4, .string ByteArray.empty, .int .i64 0, .slice a 0 cap] 25) = W := ⟨_, rfl⟩
        rw [hW] at bW hbW
        have hzW : w.heap.size ≤ W.heap.size := hbW.size
        obtain ⟨b0, b1, b2, b3⟩ := bW.four
        clear bW
        have hsl : IsSl W (· < W.heap.size) ks.toL (.slice a 0 cap) := IsSl.keep (fun x hx => ⟨Nat.lt_of_lt_of_le hx hzW, hbW.block x hx⟩) (show IsSl w (· < w.heap.size) ks.toL (.slice a 0 cap) from ⟨a, cap, by rw [Dcs.len_toL, HM.out], by rw [Dcs.len_toL, HM.out]; exact hl0, fun hne => by rw [Dcs.ofL_toL]; exact hks (by rwa [Dcs.len_toL] at hne)⟩)
        have HC := hide (contains_any (fun d => !rightD d) (· < W.heap.size) ks.toL _ W (fun _ h => h) hsl (fun d hd v w1 h1 => wrong_any d (IH d hd) v w1 h1))
        have HN := hide (not_any (p := rightD) ks.toL)
        clear hsl
        go_enter Try.func18, Try.ntmps18
        go_wp2_with fail
        refine (unhide HC).mono ?_
        rintro e w1 ⟨rfl, hb⟩
        cases hx : ks.toL.any fun d => !rightD d with
        | true =>
          go_wp2_with fail
          go_ret
          exact ⟨by rw [← HN.out, hx]; rfl, hbW.trans (hb.mono hzW)⟩
        | false =>
          go_wp2_with fail
          go_ret
          exact ⟨by rw [← HN.out, hx]; rfl, hbW.trans (hb.mono hzW)⟩
      · have m1' : ((m : Int) == 0) = false := beq_eq_false_iff_ne.2 (by omega)
        have HT := hide (rightD_no (k := 4) (s := ByteArray.empty) (n := 0) (ks := ks) (by simp [topB, isEmpty_true, hm, m1]))
        have bW := Blk.new w 25 #[.int .i64 4, .string ByteArray.empty, .int .i64 0, .slice a m cap]
        have hbW : Below w.heap.size w (w.alloc (.cells #[.int .i64 4, .string ByteArray.empty, .int .i64 0, .slice a m cap] 25)) := (Below.refl _ w).alloc (Nat.le_refl _) _
        unfold Says; rw [HT.out]; clear HT
        clear hm
        go_enter Try.func18, Try.ntmps18
        go_wp2_with fail
        go_ret
        exact ⟨rfl, hbW⟩
    · have n0' : (n == 0) = false := beq_eq_false_iff_ne.2 n0
      have HT := hide (rightD_no (k := 4) (s := ByteArray.empty) (n := n) (ks := ks) (by simp [topB, isEmpty_true, n0]))
      have bW := Blk.new w 25 #[.int .i64 4, .string ByteArray.empty, .int .i64 n, .slice a m cap]
      have hbW : Below w.heap.size w (w.alloc (.cells #[.int .i64 4, .string ByteArray.empty, .int .i64 n, .slice a m cap] 25)) := (Below.refl _ w).alloc (Nat.le_refl _) _
      unfold Says; rw [HT.out]; clear HT
      clear hm
      go_enter Try.func18, Try.ntmps18
      go_wp2_with fail
      go_ret
      exact ⟨rfl, hbW⟩
  · have e1 := isEmpty_false h0
    clear h0
    have HT := hide (rightD_no (k := 4) (s := s) (n := n) (ks := ks) (by simp [topB, e1]))
    have bW := Blk.new w 25 #[.int .i64 4, .string s, .int .i64 n, .slice a m cap]
    have hbW : Below w.heap.size w (w.alloc (.cells #[.int .i64 4, .string s, .int .i64 n, .slice a m cap] 25)) := (Below.refl _ w).alloc (Nat.le_refl _) _
    unfold Says; rw [HT.out]; clear HT
    clear hm
    go_enter Try.func18, Try.ntmps18
    go_wp2_with fail
    go_ret
    exact ⟨rfl, hbW⟩

set_option maxHeartbeats 4000000 in
theorem right_k5 (s : ByteArray) (n : Int) (ks : Dcs) (a : Option Addr) (cap : Nat) (w : World) (hn : -9223372036854775808 ≤ n ∧ n ≤ 9223372036854775807) (hs : s.size ≤ maxLen) (hl : ks.len ≤ maxLen) (hks : ks.len ≠ 0 → ∃ b o, a = some ⟨b, o, none⟩ ∧ b < w.heap.size ∧ IsDcs w (· < w.heap.size) b o ks) (IH : ∀ d ∈ ks.toL, RightOk d) : Calls Try.prog 18 #[.agg #[.int .i64 5, .string s, .int .i64 n, .slice a ks.len cap]] w (Says (rightD (.mk 5 s n ks)) w) := by
  have hl0 := hl
  simp only [maxLen] at hl
  obtain ⟨m, hm⟩ : ∃ m, ks.len = m := ⟨_, rfl⟩
  rw [hm] at hl hl0 ⊢
  by_cases h0 : s = ByteArray.empty
  · subst h0
    by_cases n0 : n = 0
    · subst n0
      by_cases m1 : m = 1
      · subst m1
        have HT := hide (rightD_yes (k := 5) (s := ByteArray.empty) (n := 0) (ks := ks) (by simp [topB, isEmpty_true, hm]))
        have bW := Blk.new w 25 #[.int .i64 5, .string ByteArray.empty, .int .i64 0, .slice a 1 cap]
        have hbW : Below w.heap.size w (w.alloc (.cells #[.int .i64 5, .string ByteArray.empty, .int .i64 0, .slice a 1 cap] 25)) := (Below.refl _ w).alloc (Nat.le_refl _) _
        unfold Says; rw [HT.out]; clear HT
        have HM := hide hm
        clear hm
        obtain ⟨W, hW⟩ : ∃ W, w.alloc (.cells #[.int .i64 5, .string ByteArray.empty, .int .i64 0, .slice a 1 cap] 25) = W := ⟨_, rfl⟩
        rw [hW] at bW hbW
        have hzW : w.heap.size ≤ W.heap.size := hbW.size
        obtain ⟨b0, b1, b2, b3⟩ := bW.four
        clear bW
        have hsl : IsSl W (· < W.heap.size) ks.toL (.slice a 1 cap) := IsSl.keep (fun x hx => ⟨Nat.lt_of_lt_of_le hx hzW, hbW.block x hx⟩) (show IsSl w (· < w.heap.size) ks.toL (.slice a 1 cap) from ⟨a, cap, by rw [Dcs.len_toL, HM.out], by rw [Dcs.len_toL, HM.out]; exact hl0, fun hne => by rw [Dcs.ofL_toL]; exact hks (by rwa [Dcs.len_toL] at hne)⟩)
        have HC := hide (contains_any (fun d => !rightD d) (· < W.heap.size) ks.toL _ W (fun _ h => h) hsl (fun d hd v w1 h1 => wrong_any d (IH d hd) v w1 h1))
        have HN := hide (not_any (p := rightD) ks.toL)
        clear hsl
        go_enter Try.func18, Try.ntmps18
        go_wp2_with fail
        refine (unhide HC).mono ?_
        rintro e w1 ⟨rfl, hb⟩
        cases hx : ks.toL.any fun d => !rightD d with
        | true =>
          go_wp2_with fail
          go_ret
          exact ⟨by rw [← HN.out, hx]; rfl, hbW.trans (hb.mono hzW)⟩
        | false =>
          go_wp2_with fail
          go_ret
          exact ⟨by rw [← HN.out, hx]; rfl, hbW.trans (hb.mono hzW)⟩
      · have m1' : ((m : Int) == 1) = false := beq_eq_false_iff_ne.2 (by omega)
        have HT := hide (rightD_no (k := 5) (s := ByteArray.empty) (n := 0) (ks := ks) (by simp [topB, isEmpty_true, hm, m1]))
        have bW := Blk.new w 25 #[.int .i64 5, .string ByteArray.empty, .int .i64 0, .slice a m cap]
        have hbW : Below w.heap.size w (w.alloc (.cells #[.int .i64 5, .string ByteArray.empty, .int .i64 0, .slice a m cap] 25)) := (Below.refl _ w).alloc (Nat.le_refl _) _
        unfold Says; rw [HT.out]; clear HT
        clear hm
        go_enter Try.func18, Try.ntmps18
        go_wp2_with fail
        go_ret
        exact ⟨rfl, hbW⟩
    · have n0' : (n == 0) = false := beq_eq_false_iff_ne.2 n0
      by_cases n1 : n < -1000
      · have n2 : ¬ -1000 ≤ n := by omega
        have HT := hide (rightD_no (k := 5) (s := ByteArray.empty) (n := n) (ks := ks) (by simp [topB, isEmpty_true, n0, n2]))
        have bW := Blk.new w 25 #[.int .i64 5, .string ByteArray.empty, .int .i64 n, .slice a m cap]
        have hbW : Below w.heap.size w (w.alloc (.cells #[.int .i64 5, .string ByteArray.empty, .int .i64 n, .slice a m cap] 25)) := (Below.refl _ w).alloc (Nat.le_refl _) _
        unfold Says; rw [HT.out]; clear HT
        clear hm
        go_enter Try.func18, Try.ntmps18
        go_wp2_with fail
        go_ret
        exact ⟨rfl, hbW⟩
      · have n2 : -1000 ≤ n := by omega
        by_cases n3 : 1000 < n
        · have n4 : ¬ n ≤ 1000 := by omega
          have HT := hide (rightD_no (k := 5) (s := ByteArray.empty) (n := n) (ks := ks) (by simp [topB, isEmpty_true, n0, n2, n4]))
          have bW := Blk.new w 25 #[.int .i64 5, .string ByteArray.empty, .int .i64 n, .slice a m cap]
          have hbW : Below w.heap.size w (w.alloc (.cells #[.int .i64 5, .string ByteArray.empty, .int .i64 n, .slice a m cap] 25)) := (Below.refl _ w).alloc (Nat.le_refl _) _
          unfold Says; rw [HT.out]; clear HT
          clear hm
          go_enter Try.func18, Try.ntmps18
          go_wp2_with fail
          go_ret
          exact ⟨rfl, hbW⟩
        · have n4 : n ≤ 1000 := by omega
          by_cases m1 : m = 1
          · subst m1
            have HT := hide (rightD_yes (k := 5) (s := ByteArray.empty) (n := n) (ks := ks) (by simp [topB, isEmpty_true, n0, n2, n4, hm]))
            have bW := Blk.new w 25 #[.int .i64 5, .string ByteArray.empty, .int .i64 n, .slice a 1 cap]
            have hbW : Below w.heap.size w (w.alloc (.cells #[.int .i64 5, .string ByteArray.empty, .int .i64 n, .slice a 1 cap] 25)) := (Below.refl _ w).alloc (Nat.le_refl _) _
            unfold Says; rw [HT.out]; clear HT
            have HM := hide hm
            clear hm
            obtain ⟨W, hW⟩ : ∃ W, w.alloc (.cells #[.int .i64 5, .string ByteArray.empty, .int .i64 n, .slice a 1 cap] 25) = W := ⟨_, rfl⟩
            rw [hW] at bW hbW
            have hzW : w.heap.size ≤ W.heap.size := hbW.size
            obtain ⟨b0, b1, b2, b3⟩ := bW.four
            clear bW
            have hsl : IsSl W (· < W.heap.size) ks.toL (.slice a 1 cap) := IsSl.keep (fun x hx => ⟨Nat.lt_of_lt_of_le hx hzW, hbW.block x hx⟩) (show IsSl w (· < w.heap.size) ks.toL (.slice a 1 cap) from ⟨a, cap, by rw [Dcs.len_toL, HM.out], by rw [Dcs.len_toL, HM.out]; exact hl0, fun hne => by rw [Dcs.ofL_toL]; exact hks (by rwa [Dcs.len_toL] at hne)⟩)
            have HC := hide (contains_any (fun d => !rightD d) (· < W.heap.size) ks.toL _ W (fun _ h => h) hsl (fun d hd v w1 h1 => wrong_any d (IH d hd) v w1 h1))
            have HN := hide (not_any (p := rightD) ks.toL)
            clear hsl
            go_enter Try.func18, Try.ntmps18
            go_wp2_with fail
            refine (unhide HC).mono ?_
            rintro e w1 ⟨rfl, hb⟩
            cases hx : ks.toL.any fun d => !rightD d with
            | true =>
              go_wp2_with fail
              go_ret
              exact ⟨by rw [← HN.out, hx]; rfl, hbW.trans (hb.mono hzW)⟩
            | false =>
              go_wp2_with fail
              go_ret
              exact ⟨by rw [← HN.out, hx]; rfl, hbW.trans (hb.mono hzW)⟩
          · have m1' : ((m : Int) == 1) = false := beq_eq_false_iff_ne.2 (by omega)
            have HT := hide (rightD_no (k := 5) (s := ByteArray.empty) (n := n) (ks := ks) (by simp [topB, isEmpty_true, n0, n2, n4, hm, m1]))
            have bW := Blk.new w 25 #[.int .i64 5, .string ByteArray.empty, .int .i64 n, .slice a m cap]
            have hbW : Below w.heap.size w (w.alloc (.cells #[.int .i64 5, .string ByteArray.empty, .int .i64 n, .slice a m cap] 25)) := (Below.refl _ w).alloc (Nat.le_refl _) _
            unfold Says; rw [HT.out]; clear HT
            clear hm
            go_enter Try.func18, Try.ntmps18
            go_wp2_with fail
            go_ret
            exact ⟨rfl, hbW⟩
  · have e1 := isEmpty_false h0
    clear h0
    have HT := hide (rightD_no (k := 5) (s := s) (n := n) (ks := ks) (by simp [topB, e1]))
    have bW := Blk.new w 25 #[.int .i64 5, .string s, .int .i64 n, .slice a m cap]
    have hbW : Below w.heap.size w (w.alloc (.cells #[.int .i64 5, .string s, .int .i64 n, .slice a m cap] 25)) := (Below.refl _ w).alloc (Nat.le_refl _) _
    unfold Says; rw [HT.out]; clear HT
    clear hm
    go_enter Try.func18, Try.ntmps18
    go_wp2_with fail
    go_ret
    exact ⟨rfl, hbW⟩

set_option maxHeartbeats 4000000 in
theorem right_k6 (s : ByteArray) (n : Int) (ks : Dcs) (a : Option Addr) (cap : Nat) (w : World) (hn : -9223372036854775808 ≤ n ∧ n ≤ 9223372036854775807) (hs : s.size ≤ maxLen) (hl : ks.len ≤ maxLen) (hks : ks.len ≠ 0 → ∃ b o, a = some ⟨b, o, none⟩ ∧ b < w.heap.size ∧ IsDcs w (· < w.heap.size) b o ks) (IH : ∀ d ∈ ks.toL, RightOk d) : Calls Try.prog 18 #[.agg #[.int .i64 6, .string s, .int .i64 n, .slice a ks.len cap]] w (Says (rightD (.mk 6 s n ks)) w) := by
  have hl0 := hl
  simp only [maxLen] at hl
  obtain ⟨m, hm⟩ : ∃ m, ks.len = m := ⟨_, rfl⟩
  rw [hm] at hl hl0 ⊢
  by_cases h0 : s = ByteArray.empty
  · subst h0
    by_cases n0 : n = 0
    · subst n0
      by_cases m1 : m = 1
      · subst m1
        have HT := hide (rightD_yes (k := 6) (s := ByteArray.empty) (n := 0) (ks := ks) (by simp [topB, isEmpty_true, hm]))
        have bW := Blk.new w 25 #[.int .i64 6, .string ByteArray.empty, .int .i64 0, .slice a 1 cap]
        have hbW : Below w.heap.size w (w.alloc (.cells #[.int .i64 6, .string ByteArray.empty, .int .i64 0, .slice a 1 cap] 25)) := (Below.refl _ w).alloc (Nat.le_refl _) _
        unfold Says; rw [HT.out]; clear HT
        have HM := hide hm
        clear hm
        obtain ⟨W, hW⟩ : ∃ W, w.alloc (.cells #[.int .i64 6, .string ByteArray.empty, .int .i64 0, .slice a 1 cap] 25) = W := ⟨_, rfl⟩
        rw [hW] at bW hbW
        have hzW : w.heap.size ≤ W.heap.size := hbW.size
        obtain ⟨b0, b1, b2, b3⟩ := bW.four
        clear bW
        have hsl : IsSl W (· < W.heap.size) ks.toL (.slice a 1 cap) := IsSl.keep (fun x hx => ⟨Nat.lt_of_lt_of_le hx hzW, hbW.block x hx⟩) (show IsSl w (· < w.heap.size) ks.toL (.slice a 1 cap) from ⟨a, cap, by rw [Dcs.len_toL, HM.out], by rw [Dcs.len_toL, HM.out]; exact hl0, fun hne => by rw [Dcs.ofL_toL]; exact hks (by rwa [Dcs.len_toL] at hne)⟩)
        have HC := hide (contains_any (fun d => !rightD d) (· < W.heap.size) ks.toL _ W (fun _ h => h) hsl (fun d hd v w1 h1 => wrong_any d (IH d hd) v w1 h1))
        have HN := hide (not_any (p := rightD) ks.toL)
        clear hsl
        go_enter Try.func18, Try.ntmps18
        go_wp2_with fail
        refine (unhide HC).mono ?_
        rintro e w1 ⟨rfl, hb⟩
        cases hx : ks.toL.any fun d => !rightD d with
        | true =>
          go_wp2_with fail
          go_ret
          exact ⟨by rw [← HN.out, hx]; rfl, hbW.trans (hb.mono hzW)⟩
        | false =>
          go_wp2_with fail
          go_ret
          exact ⟨by rw [← HN.out, hx]; rfl, hbW.trans (hb.mono hzW)⟩
      · have m1' : ((m : Int) == 1) = false := beq_eq_false_iff_ne.2 (by omega)
        have HT := hide (rightD_no (k := 6) (s := ByteArray.empty) (n := 0) (ks := ks) (by simp [topB, isEmpty_true, hm, m1]))
        have bW := Blk.new w 25 #[.int .i64 6, .string ByteArray.empty, .int .i64 0, .slice a m cap]
        have hbW : Below w.heap.size w (w.alloc (.cells #[.int .i64 6, .string ByteArray.empty, .int .i64 0, .slice a m cap] 25)) := (Below.refl _ w).alloc (Nat.le_refl _) _
        unfold Says; rw [HT.out]; clear HT
        clear hm
        go_enter Try.func18, Try.ntmps18
        go_wp2_with fail
        go_ret
        exact ⟨rfl, hbW⟩
    · have n0' : (n == 0) = false := beq_eq_false_iff_ne.2 n0
      have HT := hide (rightD_no (k := 6) (s := ByteArray.empty) (n := n) (ks := ks) (by simp [topB, isEmpty_true, n0]))
      have bW := Blk.new w 25 #[.int .i64 6, .string ByteArray.empty, .int .i64 n, .slice a m cap]
      have hbW : Below w.heap.size w (w.alloc (.cells #[.int .i64 6, .string ByteArray.empty, .int .i64 n, .slice a m cap] 25)) := (Below.refl _ w).alloc (Nat.le_refl _) _
      unfold Says; rw [HT.out]; clear HT
      clear hm
      go_enter Try.func18, Try.ntmps18
      go_wp2_with fail
      go_ret
      exact ⟨rfl, hbW⟩
  · have e1 := isEmpty_false h0
    clear h0
    have HT := hide (rightD_no (k := 6) (s := s) (n := n) (ks := ks) (by simp [topB, e1]))
    have bW := Blk.new w 25 #[.int .i64 6, .string s, .int .i64 n, .slice a m cap]
    have hbW : Below w.heap.size w (w.alloc (.cells #[.int .i64 6, .string s, .int .i64 n, .slice a m cap] 25)) := (Below.refl _ w).alloc (Nat.le_refl _) _
    unfold Says; rw [HT.out]; clear HT
    clear hm
    go_enter Try.func18, Try.ntmps18
    go_wp2_with fail
    go_ret
    exact ⟨rfl, hbW⟩

set_option maxHeartbeats 4000000 in
theorem right_k7 (s : ByteArray) (n : Int) (ks : Dcs) (a : Option Addr) (cap : Nat) (w : World) (hn : -9223372036854775808 ≤ n ∧ n ≤ 9223372036854775807) (hs : s.size ≤ maxLen) (hl : ks.len ≤ maxLen) (hks : ks.len ≠ 0 → ∃ b o, a = some ⟨b, o, none⟩ ∧ b < w.heap.size ∧ IsDcs w (· < w.heap.size) b o ks) (IH : ∀ d ∈ ks.toL, RightOk d) : Calls Try.prog 18 #[.agg #[.int .i64 7, .string s, .int .i64 n, .slice a ks.len cap]] w (Says (rightD (.mk 7 s n ks)) w) := by
  have hl0 := hl
  simp only [maxLen] at hl
  obtain ⟨m, hm⟩ : ∃ m, ks.len = m := ⟨_, rfl⟩
  rw [hm] at hl hl0 ⊢
  by_cases h0 : s = ByteArray.empty
  · subst h0
    by_cases n0 : n = 0
    · subst n0
      have HT := hide (rightD_yes (k := 7) (s := ByteArray.empty) (n := 0) (ks := ks) (by simp [topB, isEmpty_true]))
      have bW := Blk.new w 25 #[.int .i64 7, .string ByteArray.empty, .int .i64 0, .slice a m cap]
      have hbW : Below w.heap.size w (w.alloc (.cells #[.int .i64 7, .string ByteArray.empty, .int .i64 0, .slice a m cap] 25)) := (Below.refl _ w).alloc (Nat.le_refl _) _
      unfold Says; rw [HT.out]; clear HT
      have HM := hide hm
      clear hm
      obtain ⟨W, hW⟩ : ∃ W, w.alloc (.cells #[.int .i64 7, .string ByteArray.empty, .int .i64 0, .slice a m cap] 25) = W := ⟨_, rfl⟩
      rw [hW] at bW hbW
      have hzW : w.heap.size ≤ W.heap.size := hbW.size
      obtain ⟨b0, b1, b2, b3⟩ := bW.four
      clear bW
      have hsl : IsSl W (· < W.heap.size) ks.toL (.slice a m cap) := IsSl.keep (fun x hx => ⟨Nat.lt_of_lt_of_le hx hzW, hbW.block x hx⟩) (show IsSl w (· < w.heap.size) ks.toL (.slice a m cap) from ⟨a, cap, by rw [Dcs.len_toL, HM.out], by rw [Dcs.len_toL, HM.out]; exact hl0, fun hne => by rw [Dcs.ofL_toL]; exact hks (by rwa [Dcs.len_toL] at hne)⟩)
      have HC := hide (contains_any (fun d => !rightD d) (· < W.heap.size) ks.toL _ W (fun _ h => h) hsl (fun d hd v w1 h1 => wrong_any d (IH d hd) v w1 h1))
      have HN := hide (not_any (p := rightD) ks.toL)
      clear hsl
      go_enter Try.func18, Try.ntmps18
      go_wp2_with fail
      refine (unhide HC).mono ?_
      rintro e w1 ⟨rfl, hb⟩
      cases hx : ks.toL.any fun d => !rightD d with
      | true =>
        go_wp2_with fail
        go_ret
        exact ⟨by rw [← HN.out, hx]; rfl, hbW.trans (hb.mono hzW)⟩
      | false =>
        go_wp2_with fail
        go_ret
        exact ⟨by rw [← HN.out, hx]; rfl, hbW.trans (hb.mono hzW)⟩
    · have n0' : (n == 0) = false := beq_eq_false_iff_ne.2 n0
      have HT := hide (rightD_no (k := 7) (s := ByteArray.empty) (n := n) (ks := ks) (by simp [topB, isEmpty_true, n0]))
      have bW := Blk.new w 25 #[.int .i64 7, .string ByteArray.empty, .int .i64 n, .slice a m cap]
      have hbW : Below w.heap.size w (w.alloc (.cells #[.int .i64 7, .string ByteArray.empty, .int .i64 n, .slice a m cap] 25)) := (Below.refl _ w).alloc (Nat.le_refl _) _
      unfold Says; rw [HT.out]; clear HT
      clear hm
      go_enter Try.func18, Try.ntmps18
      go_wp2_with fail
      go_ret
      exact ⟨rfl, hbW⟩
  · have e1 := isEmpty_false h0
    clear h0
    have HT := hide (rightD_no (k := 7) (s := s) (n := n) (ks := ks) (by simp [topB, e1]))
    have bW := Blk.new w 25 #[.int .i64 7, .string s, .int .i64 n, .slice a m cap]
    have hbW : Below w.heap.size w (w.alloc (.cells #[.int .i64 7, .string s, .int .i64 n, .slice a m cap] 25)) := (Below.refl _ w).alloc (Nat.le_refl _) _
    unfold Says; rw [HT.out]; clear HT
    clear hm
    go_enter Try.func18, Try.ntmps18
    go_wp2_with fail
    go_ret
    exact ⟨rfl, hbW⟩

set_option maxHeartbeats 1000000 in
theorem right_any (d : Dc) : RightOk d := by
  refine Dc.ind_ (P := RightOk) ?_ d
  intro k s n ks IH v w hD
  rw [IsDc] at hD
  obtain ⟨a, cap, rfl, hk, hn, hs, hl, hks⟩ := hD
  by_cases h0 : k < 0
  · have HT := hide (rightD_no (k := k) (s := s) (n := n) (ks := ks) (by simp [topB, show ¬ 0 ≤ k by omega]))
    unfold Says; rw [HT.out]; clear HT
    have hbW : Below w.heap.size w (w.alloc (.cells #[.int .i64 k, .string s, .int .i64 n, .slice a ks.len cap] 25)) := (Below.refl _ w).alloc (Nat.le_refl _) _
    go_enter Try.func18, Try.ntmps18
    go_wp2_with fail
    go_ret
    exact ⟨rfl, hbW⟩
  by_cases h7 : 7 < k
  · have HT := hide (rightD_no (k := k) (s := s) (n := n) (ks := ks) (by simp [topB, show ¬ k ≤ 7 by omega]))
    unfold Says; rw [HT.out]; clear HT
    have hbW : Below w.heap.size w (w.alloc (.cells #[.int .i64 k, .string s, .int .i64 n, .slice a ks.len cap] 25)) := (Below.refl _ w).alloc (Nat.le_refl _) _
    go_enter Try.func18, Try.ntmps18
    go_wp2_with fail
    go_ret
    exact ⟨rfl, hbW⟩
  have hcase : k = 0 ∨ k = 1 ∨ k = 2 ∨ k = 3 ∨ k = 4 ∨ k = 5 ∨ k = 6 ∨ k = 7 := by omega
  rcases hcase with rfl | rfl | rfl | rfl | rfl | rfl | rfl | rfl
  · exact right_k0 s n ks a cap w hn hs hl hks IH
  · exact right_k1 s n ks a cap w hn hs hl hks IH
  · exact right_k2 s n ks a cap w hn hs hl hks IH
  · exact right_k3 s n ks a cap w hn hs hl hks IH
  · exact right_k4 s n ks a cap w hn hs hl hks IH
  · exact right_k5 s n ks a cap w hn hs hl hks IH
  · exact right_k6 s n ks a cap w hn hs hl hks IH
  · exact right_k7 s n ks a cap w hn hs hl hks IH
end Go.Proofs.Ytggbocimapdidaa
