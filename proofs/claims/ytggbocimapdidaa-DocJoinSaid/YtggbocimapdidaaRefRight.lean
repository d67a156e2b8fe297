/-
  The reference's Right of a document.
  Its condition: the value reads as a document.
-/
import Derived.Test.YtggbocimapdidaaPlain
namespace Go.Proofs.Ytggbocimapdidaa
open Go.RowKit Go.WideShapes

/-- What Right asks of one document, but for its Kids. -/
def topB (k : Int) (e : Bool) (n : Int) (m : Nat) : Bool :=
  decide (0 ≤ k) && decide (k ≤ 7) && ((!e) == decide (k = 1)) && (decide (n = 0) || decide (k = 5)) && decide (-1000 ≤ n) && decide (n ≤ 1000) && (!(decide (k = 5) || decide (k = 6)) || decide (m = 1)) && (!(decide (k < 5)) || decide (m = 0))
mutual
def rightD : Dc → Bool
  | .mk k s n ks => topB k s.toList.isEmpty n ks.len && rightDs ks
def rightDs : Dcs → Bool
  | .nil => true
  | .cons d r => rightD d && rightDs r
end
theorem rightDs_all : ∀ ks : Dcs, rightDs ks = ks.toL.all rightD
  | .nil => rfl
  | .cons d r => by rw [rightDs, Dcs.toL, List.all_cons, rightDs_all r]
theorem rightD_no {k n : Int} {s : ByteArray} {ks : Dcs} (h : topB k s.toList.isEmpty n ks.len = false) : rightD (.mk k s n ks) = false := by rw [rightD, h]; rfl
theorem rightD_yes {k n : Int} {s : ByteArray} {ks : Dcs} (h : topB k s.toList.isEmpty n ks.len = true) : rightD (.mk k s n ks) = ks.toL.all rightD := by rw [rightD, h, rightDs_all]; rfl
theorem isEmpty_false {s : ByteArray} (h : s ≠ ByteArray.empty) : s.toList.isEmpty = false := by
  rw [ByteArray.toList_eq, List.isEmpty_eq_false_iff]
  intro e
  exact h (bytes_inj e)
theorem isEmpty_true : ByteArray.empty.toList.isEmpty = true := by rw [ByteArray.toList_eq]; rfl

/-- The call answers b; what was there is as it was. -/
def Says (b : Bool) (w : World) (e : Ending) (w' : World) : Prop := e = .returned (.bool b) ∧ Below w.heap.size w w'
def RefRightOk (d : Dc) : Prop := ∀ (v : Value) (w : World), IsDc w (· < w.heap.size) d v → Calls Try.prog 9 #[v] w (Says (rightD d) w)

set_option maxHeartbeats 4000000 in
theorem refRight_k0 (s : ByteArray) (n : Int) (ks : Dcs) (a : Option Addr) (cap : Nat) (w : World) (hn : -9223372036854775808 ≤ n ∧ n ≤ 9223372036854775807) (hs : s.size ≤ maxLen) (hl : ks.len ≤ maxLen) (hks : ks.len ≠ 0 → ∃ b o, a = some ⟨b, o, none⟩ ∧ b < w.heap.size ∧ IsDcs w (· < w.heap.size) b o ks) (IH : ∀ d ∈ ks.toL, RefRightOk d) : Calls Try.prog 9 #[.agg #[.int .i64 0, .string s, .int .i64 n, .slice a ks.len cap]] w (Says (rightD (.mk 0 s n ks)) w) := by
  simp only [maxLen] at hl
  obtain ⟨m, hm⟩ : ∃ m, ks.len = m := ⟨_, rfl⟩
  rw [hm] at hl ⊢
  by_cases h0 : s = ByteArray.empty
  · subst h0
    by_cases n0 : n = 0
    · subst n0
      by_cases m1 : m = 0
      · subst m1
        have HT := hide (rightD_yes (k := 0) (s := ByteArray.empty) (n := 0) (ks := ks) (by simp [topB, isEmpty_true, hm]))
        have bW := Blk.new w 25 #[.int .i64 0, .string ByteArray.empty, .int .i64 0, .slice a 0 cap]
        have hbW : Below w.heap.size w (w.alloc (.cells #[.int .i64 0, .string ByteArray.empty, .int .i64 0, .slice a 0 cap] 25)) := (Below.refl _ w).alloc (Nat.le_refl _) _
        unfold Says; rw [HT.out]; clear HT
        have HM := hide hm
        clear hm
        obtain ⟨W, hW⟩ : ∃ W, w.alloc (.cells #[.int .i64 0, .string ByteArray.empty, .int .i64 0, .slice a 0 cap] 25) = W := ⟨_, rfl⟩
        rw [hW] at bW hbW
        have hzW : W.heap.size = w.heap.size + 1 := by rw [← hW]; simp
        obtain ⟨b0, b1, b2, b3⟩ := bW.four
        have HB := hide bW
        clear bW
        go_enter Try.func9, Try.ntmps9
        go_wp2_with fail
        clear b0 b1 b2 b3 hW
        go_loopw [4] (fun i wr => ∃ q : Nat, q ≤ ks.len ∧ i = .int .i64 q ∧ Below W.heap.size W wr ∧ ks.toL.all rightD = (ks.toL.drop q).all rightD) (fun i _ => ks.len - (intOf i).toNat)
        case atStart => exact ⟨0, Nat.zero_le _, rfl, Below.refl _ _, rfl⟩
        case round =>
          obtain ⟨q, hq, rfl, hb, hr⟩ := hrel
          have HR := hide hr
          clear hr
          obtain ⟨b0, b1, b2, b3⟩ := (HB.out.below hb (by omega)).four
          by_cases hlt : q < ks.len
          · exact absurd hlt (by rw [HM.out]; omega)
          · have hlt' : ¬ q < 0 := by rw [← HM.out]; exact hlt
            go_wp2_with fail
            go_ret
            refine ⟨?_, hbW.trans (hb.mono (by omega))⟩
            rw [HR.out, List.drop_eq_nil_of_le (by rw [Dcs.len_toL]; omega)]
            rfl
      · have m1' : ((m : Int) == 0) = false := beq_eq_false_iff_ne.2 (by omega)
        have HT := hide (rightD_no (k := 0) (s := ByteArray.empty) (n := 0) (ks := ks) (by simp [topB, isEmpty_true, hm, m1]))
        have bW := Blk.new w 25 #[.int .i64 0, .string ByteArray.empty, .int .i64 0, .slice a m cap]
        have hbW : Below w.heap.size w (w.alloc (.cells #[.int .i64 0, .string ByteArray.empty, .int .i64 0, .slice a m cap] 25)) := (Below.refl _ w).alloc (Nat.le_refl _) _
        unfold Says; rw [HT.out]; clear HT
        clear hm
        go_enter Try.func9, Try.ntmps9
        go_wp2_with fail
        go_ret
        exact ⟨rfl, hbW⟩
    · have n0' : (n == 0) = false := beq_eq_false_iff_ne.2 n0
      have HT := hide (rightD_no (k := 0) (s := ByteArray.empty) (n := n) (ks := ks) (by simp [topB, isEmpty_true, n0]))
      have bW := Blk.new w 25 #[.int .i64 0, .string ByteArray.empty, .int .i64 n, .slice a m cap]
      have hbW : Below w.heap.size w (w.alloc (.cells #[.int .i64 0, .string ByteArray.empty, .int .i64 n, .slice a m cap] 25)) := (Below.refl _ w).alloc (Nat.le_refl _) _
      unfold Says; rw [HT.out]; clear HT
      clear hm
      go_enter Try.func9, Try.ntmps9
      go_wp2_with fail
      go_ret
      exact ⟨rfl, hbW⟩
  · have e1 := isEmpty_false h0
    clear h0
    have HT := hide (rightD_no (k := 0) (s := s) (n := n) (ks := ks) (by simp [topB, e1]))
    have bW := Blk.new w 25 #[.int .i64 0, .string s, .int .i64 n, .slice a m cap]
    have hbW : Below w.heap.size w (w.alloc (.cells #[.int .i64 0, .string s, .int .i64 n, .slice a m cap] 25)) := (Below.refl _ w).alloc (Nat.le_refl _) _
    unfold Says; rw [HT.out]; clear HT
    clear hm
    go_enter Try.func9, Try.ntmps9
    go_wp2_with fail
    go_ret
    exact ⟨rfl, hbW⟩

set_option maxHeartbeats 4000000 in
theorem refRight_k1 (s : ByteArray) (n : Int) (ks : Dcs) (a : Option Addr) (cap : Nat) (w : World) (hn : -9223372036854775808 ≤ n ∧ n ≤ 9223372036854775807) (hs : s.size ≤ maxLen) (hl : ks.len ≤ maxLen) (hks : ks.len ≠ 0 → ∃ b o, a = some ⟨b, o, none⟩ ∧ b < w.heap.size ∧ IsDcs w (· < w.heap.size) b o ks) (IH : ∀ d ∈ ks.toL, RefRightOk d) : Calls Try.prog 9 #[.agg #[.int .i64 1, .string s, .int .i64 n, .slice a ks.len cap]] w (Says (rightD (.mk 1 s n ks)) w) := by
  simp only [maxLen] at hl
  obtain ⟨m, hm⟩ : ∃ m, ks.len = m := ⟨_, rfl⟩
  rw [hm] at hl ⊢
  by_cases h0 : s = ByteArray.empty
  · subst h0
    have HT := hide (rightD_no (k := 1) (s := ByteArray.empty) (n := n) (ks := ks) (by simp [topB, isEmpty_true]))
    have bW := Blk.new w 25 #[.int .i64 1, .string ByteArray.empty, .int .i64 n, .slice a m cap]
    have hbW : Below w.heap.size w (w.alloc (.cells #[.int .i64 1, .string ByteArray.empty, .int .i64 n, .slice a m cap] 25)) := (Below.refl _ w).alloc (Nat.le_refl _) _
    unfold Says; rw [HT.out]; clear HT
    clear hm
    go_enter Try.func9, Try.ntmps9
    go_wp2_with fail
    go_ret
    exact ⟨rfl, hbW⟩
  · have e1 := isEmpty_false h0
    clear h0
    by_cases n0 : n = 0
    · subst n0
      by_cases m1 : m = 0
      · subst m1
        have HT := hide (rightD_yes (k := 1) (s := s) (n := 0) (ks := ks) (by simp [topB, e1, hm]))
        have bW := Blk.new w 25 #[.int .i64 1, .string s, .int .i64 0, .slice a 0 cap]
        have hbW : Below w.heap.size w (w.alloc (.cells #[.int .i64 1, .string s, .int .i64 0, .slice a 0 cap] 25)) := (Below.refl _ w).alloc (Nat.le_refl _) _
        unfold Says; rw [HT.out]; clear HT
        have HM := hide hm
        clear hm
        obtain ⟨W, hW⟩ : ∃ W, w.alloc (.cells #[.int .i64 1, .string s, .int .i64 0, .slice a 0 cap] 25) = W := ⟨_, rfl⟩
        rw [hW] at bW hbW
        have hzW : W.heap.size = w.heap.size + 1 := by rw [← hW]; simp
        obtain ⟨b0, b1, b2, b3⟩ := bW.four
        have HB := hide bW
        clear bW
        go_enter Try.func9, Try.ntmps9
        go_wp2_with fail
        clear b0 b1 b2 b3 hW
        go_loopw [4] (fun i wr => ∃ q : Nat, q ≤ ks.len ∧ i = .int .i64 q ∧ Below W.heap.size W wr ∧ ks.toL.all rightD = (ks.toL.drop q).all rightD) (fun i _ => ks.len - (intOf i).toNat)
        case atStart => exact ⟨0, Nat.zero_le _, rfl, Below.refl _ _, rfl⟩
        case round =>
          obtain ⟨q, hq, rfl, hb, hr⟩ := hrel
          have HR := hide hr
          clear hr
          obtain ⟨b0, b1, b2, b3⟩ := (HB.out.below hb (by omega)).four
          by_cases hlt : q < ks.len
          · exact absurd hlt (by rw [HM.out]; omega)
          · have hlt' : ¬ q < 0 := by rw [← HM.out]; exact hlt
            go_wp2_with fail
            go_ret
            refine ⟨?_, hbW.trans (hb.mono (by omega))⟩
            rw [HR.out, List.drop_eq_nil_of_le (by rw [Dcs.len_toL]; omega)]
            rfl
      · have m1' : ((m : Int) == 0) = false := beq_eq_false_iff_ne.2 (by omega)
        have HT := hide (rightD_no (k := 1) (s := s) (n := 0) (ks := ks) (by simp [topB, e1, hm, m1]))
        have bW := Blk.new w 25 #[.int .i64 1, .string s, .int .i64 0, .slice a m cap]
        have hbW : Below w.heap.size w (w.alloc (.cells #[.int .i64 1, .string s, .int .i64 0, .slice a m cap] 25)) := (Below.refl _ w).alloc (Nat.le_refl _) _
        unfold Says; rw [HT.out]; clear HT
        clear hm
        go_enter Try.func9, Try.ntmps9
        go_wp2_with fail
        go_ret
        exact ⟨rfl, hbW⟩
    · have n0' : (n == 0) = false := beq_eq_false_iff_ne.2 n0
      have HT := hide (rightD_no (k := 1) (s := s) (n := n) (ks := ks) (by simp [topB, e1, n0]))
      have bW := Blk.new w 25 #[.int .i64 1, .string s, .int .i64 n, .slice a m cap]
      have hbW : Below w.heap.size w (w.alloc (.cells #[.int .i64 1, .string s, .int .i64 n, .slice a m cap] 25)) := (Below.refl _ w).alloc (Nat.le_refl _) _
      unfold Says; rw [HT.out]; clear HT
      clear hm
      go_enter Try.func9, Try.ntmps9
      go_wp2_with fail
      go_ret
      exact ⟨rfl, hbW⟩

set_option maxHeartbeats 4000000 in
theorem refRight_k2 (s : ByteArray) (n : Int) (ks : Dcs) (a : Option Addr) (cap : Nat) (w : World) (hn : -9223372036854775808 ≤ n ∧ n ≤ 9223372036854775807) (hs : s.size ≤ maxLen) (hl : ks.len ≤ maxLen) (hks : ks.len ≠ 0 → ∃ b o, a = some ⟨b, o, none⟩ ∧ b < w.heap.size ∧ IsDcs w (· < w.heap.size) b o ks) (IH : ∀ d ∈ ks.toL, RefRightOk d) : Calls Try.prog 9 #[.agg #[.int .i64 2, .string s, .int .i64 n, .slice a ks.len cap]] w (Says (rightD (.mk 2 s n ks)) w) := by
  simp only [maxLen] at hl
  obtain ⟨m, hm⟩ : ∃ m, ks.len = m := ⟨_, rfl⟩
  rw [hm] at hl ⊢
  by_cases h0 : s = ByteArray.empty
  · subst h0
    by_cases n0 : n = 0
    · subst n0
      by_cases m1 : m = 0
      · subst m1
        have HT := hide (rightD_yes (k := 2) (s := ByteArray.empty) (n := 0) (ks := ks) (by simp [topB, isEmpty_true, hm]))
        have bW := Blk.new w 25 #[.int .i64 2, .string ByteArray.empty, .int .i64 0, .slice a 0 cap]
        have hbW : Below w.heap.size w (w.alloc (.cells #[.int .i64 2, .string ByteArray.empty, .int .i64 0, .slice a 0 cap] 25)) := (Below.refl _ w).alloc (Nat.le_refl _) _
        unfold Says; rw [HT.out]; clear HT
        have HM := hide hm
        clear hm
        obtain ⟨W, hW⟩ : ∃ W, w.alloc (.cells #[.int .i64 2, .string ByteArray.empty, .int .i64 0, .slice a 0 cap] 25) = W := ⟨_, rfl⟩
        rw [hW] at bW hbW
        have hzW : W.heap.size = w.heap.size + 1 := by rw [← hW]; simp
        obtain ⟨b0, b1, b2, b3⟩ := bW.four
        have HB := hide bW
        clear bW
        go_enter Try.func9, Try.ntmps9
        go_wp2_with fail
        clear b0 b1 b2 b3 hW
        go_loopw [4] (fun i wr => ∃ q : Nat, q ≤ ks.len ∧ i = .int .i64 q ∧ Below W.heap.size W wr ∧ ks.toL.all rightD = (ks.toL.drop q).all rightD) (fun i _ => ks.len - (intOf i).toNat)
        case atStart => exact ⟨0, Nat.zero_le _, rfl, Below.refl _ _, rfl⟩
        case round =>
          obtain ⟨q, hq, rfl, hb, hr⟩ := hrel
          have HR := hide hr
          clear hr
          obtain ⟨b0, b1, b2, b3⟩ := (HB.out.below hb (by omega)).four
          by_cases hlt : q < ks.len
          · exact absurd hlt (by rw [HM.out]; omega)
          · have hlt' : ¬ q < 0 := by rw [← HM.out]; exact hlt
            go_wp2_with fail
            go_ret
            refine ⟨?_, hbW.trans (hb.mono (by omega))⟩
            rw [HR.out, List.drop_eq_nil_of_le (by rw [Dcs.len_toL]; omega)]
            rfl
      · have m1' : ((m : Int) == 0) = false := beq_eq_false_iff_ne.2 (by omega)
        have HT := hide (rightD_no (k := 2) (s := ByteArray.empty) (n := 0) (ks := ks) (by simp [topB, isEmpty_true, hm, m1]))
        have bW := Blk.new w 25 #[.int .i64 2, .string ByteArray.empty, .int .i64 0, .slice a m cap]
        have hbW : Below w.heap.size w (w.alloc (.cells #[.int .i64 2, .string ByteArray.empty, .int .i64 0, .slice a m cap] 25)) := (Below.refl _ w).alloc (Nat.le_refl _) _
        unfold Says; rw [HT.out]; clear HT
        clear hm
        go_enter Try.func9, Try.ntmps9
        go_wp2_with fail
        go_ret
        exact ⟨rfl, hbW⟩
    · have n0' : (n == 0) = false := beq_eq_false_iff_ne.2 n0
      have HT := hide (rightD_no (k := 2) (s := ByteArray.empty) (n := n) (ks := ks) (by simp [topB, isEmpty_true, n0]))
      have bW := Blk.new w 25 #[.int .i64 2, .string ByteArray.empty, .int .i64 n, .slice a m cap]
      have hbW : Below w.heap.size w (w.alloc (.cells #[.int .i64 2, .string ByteArray.empty, .int .i64 n, .slice a m cap] 25)) := (Below.refl _ w).alloc (Nat.le_refl _) _
      unfold Says; rw [HT.out]; clear HT
      clear hm
      go_enter Try.func9, Try.ntmps9
      go_wp2_with fail
      go_ret
      exact ⟨rfl, hbW⟩
  · have e1 := isEmpty_false h0
    clear h0
    have HT := hide (rightD_no (k := 2) (s := s) (n := n) (ks := ks) (by simp [topB, e1]))
    have bW := Blk.new w 25 #[.int .i64 2, .string s, .int .i64 n, .slice a m cap]
    have hbW : Below w.heap.size w (w.alloc (.cells #[.int .i64 2, .string s, .int .i64 n, .slice a m cap] 25)) := (Below.refl _ w).alloc (Nat.le_refl _) _
    unfold Says; rw [HT.out]; clear HT
    clear hm
    go_enter Try.func9, Try.ntmps9
    go_wp2_with fail
    go_ret
    exact ⟨rfl, hbW⟩

set_option maxHeartbeats 4000000 in
theorem refRight_k3 (s : ByteArray) (n : Int) (ks : Dcs) (a : Option Addr) (cap : Nat) (w : World) (hn : -9223372036854775808 ≤ n ∧ n ≤ 9223372036854775807) (hs : s.size ≤ maxLen) (hl : ks.len ≤ maxLen) (hks : ks.len ≠ 0 → ∃ b o, a = some ⟨b, o, none⟩ ∧ b < w.heap.size ∧ IsDcs w (· < w.heap.size) b o ks) (IH : ∀ d ∈ ks.toL, RefRightOk d) : Calls Try.prog 9 #[.agg #[.int .i64 3, .string s, .int .i64 n, .slice a ks.len cap]] w (Says (rightD (.mk 3 s n ks)) w) := by
  simp only [maxLen] at hl
  obtain ⟨m, hm⟩ : ∃ m, ks.len = m := ⟨_, rfl⟩
  rw [hm] at hl ⊢
  by_cases h0 : s = ByteArray.empty
  · subst h0
    by_cases n0 : n = 0
    · subst n0
      by_cases m1 : m = 0
      · subst m1
        have HT := hide (rightD_yes (k := 3) (s := ByteArray.empty) (n := 0) (ks := ks) (by simp [topB, isEmpty_true, hm]))
        have bW := Blk.new w 25 #[.int .i64 3, .string ByteArray.empty, .int .i64 0, .slice a 0 cap]
        have hbW : Below w.heap.size w (w.alloc (.cells #[.int .i64 3, .string ByteArray.empty, .int .i64 0, .slice a 0 cap] 25)) := (Below.refl _ w).alloc (Nat.le_refl _) _
        unfold Says; rw [HT.out]; clear HT
        have HM := hide hm
        clear hm
        obtain ⟨W, hW⟩ : ∃ W, w.alloc (.cells #[.int .i64 3, .string ByteArray.empty, .int .i64 0, .slice a 0 cap] 25) = W := ⟨_, rfl⟩
        rw [hW] at bW hbW
        have hzW : W.heap.size = w.heap.size + 1 := by rw [← hW]; simp
        obtain ⟨b0, b1, b2, b3⟩ := bW.four
        have HB := hide bW
        clear bW
        go_enter Try.func9, Try.ntmps9
        go_wp2_with fail
        clear b0 b1 b2 b3 hW
        go_loopw [4] (fun i wr => ∃ q : Nat, q ≤ ks.len ∧ i = .int .i64 q ∧ Below W.heap.size W wr ∧ ks.toL.all rightD = (ks.toL.drop q).all rightD) (fun i _ => ks.len - (intOf i).toNat)
        case atStart => exact ⟨0, Nat.zero_le _, rfl, Below.refl _ _, rfl⟩
        case round =>
          obtain ⟨q, hq, rfl, hb, hr⟩ := hrel
          have HR := hide hr
          clear hr
          obtain ⟨b0, b1, b2, b3⟩ := (HB.out.below hb (by omega)).four
          by_cases hlt : q < ks.len
          · exact absurd hlt (by rw [HM.out]; omega)
          · have hlt' : ¬ q < 0 := by rw [← HM.out]; exact hlt
            go_wp2_with fail
            go_ret
            refine ⟨?_, hbW.trans (hb.mono (by omega))⟩
            rw [HR.out, List.drop_eq_nil_of_le (by rw [Dcs.len_toL]; omega)]
            rfl
      · have m1' : ((m : Int) == 0) = false := beq_eq_false_iff_ne.2 (by omega)
        have HT := hide (rightD_no (k := 3) (s := ByteArray.empty) (n := 0) (ks := ks) (by simp [topB, isEmpty_true, hm, m1]))
        have bW := Blk.new w 25 #[.int .i64 3, .string ByteArray.empty, .int .i64 0, .slice a m cap]
        have hbW : Below w.heap.size w (w.alloc (.cells #[.int .i64 3, .string ByteArray.empty, .int .i64 0, .slice a m cap] 25)) := (Below.refl _ w).alloc (Nat.le_refl _) _
        unfold Says; rw [HT.out]; clear HT
        clear hm
        go_enter Try.func9, Try.ntmps9
        go_wp2_with fail
        go_ret
        exact ⟨rfl, hbW⟩
    · have n0' : (n == 0) = false := beq_eq_false_iff_ne.2 n0
      have HT := hide (rightD_no (k := 3) (s := ByteArray.empty) (n := n) (ks := ks) (by simp [topB, isEmpty_true, n0]))
      have bW := Blk.new w 25 #[.int .i64 3, .string ByteArray.empty, .int .i64 n, .slice a m cap]
      have hbW : Below w.heap.size w (w.alloc (.cells #[.int .i64 3, .string ByteArray.empty, .int .i64 n, .slice a m cap] 25)) := (Below.refl _ w).alloc (Nat.le_refl _) _
      unfold Says; rw [HT.out]; clear HT
      clear hm
      go_enter Try.func9, Try.ntmps9
      go_wp2_with fail
      go_ret
      exact ⟨rfl, hbW⟩
  · have e1 := isEmpty_false h0
    clear h0
    have HT := hide (rightD_no (k := 3) (s := s) (n := n) (ks := ks) (by simp [topB, e1]))
    have bW := Blk.new w 25 #[.int .i64 3, .string s, .int .i64 n, .slice a m cap]
    have hbW : Below w.heap.size w (w.alloc (.cells #[.int .i64 3, .string s, .int .i64 n, .slice a m cap] 25)) := (Below.refl _ w).alloc (Nat.le_refl _) _
    unfold Says; rw [HT.out]; clear HT
    clear hm
    go_enter Try.func9, Try.ntmps9
    go_wp2_with fail
    go_ret
    exact ⟨rfl, hbW⟩

set_option maxHeartbeats 4000000 in
theorem refRight_k4 (s : ByteArray) (n : Int) (ks : Dcs) (a : Option Addr) (cap : Nat) (w : World) (hn : -9223372036854775808 ≤ n ∧ n ≤ 9223372036854775807) (hs : s.size ≤ maxLen) (hl : ks.len ≤ maxLen) (hks : ks.len ≠ 0 → ∃ b o, a = some ⟨b, o, none⟩ ∧ b < w.heap.size ∧ IsDcs w (· < w.heap.size) b o ks) (IH : ∀ d ∈ ks.toL, RefRightOk d) : Calls Try.prog 9 #[.agg #[.int .i64 4, .string s, .int .i64 n, .slice a ks.len cap]] w (Says (rightD (.mk 4 s n ks)) w) := by
  simp only [maxLen] at hl
  obtain ⟨m, hm⟩ : ∃ m, ks.len = m := ⟨_, rfl⟩
  rw [hm] at hl ⊢
  by_cases h0 : s = ByteArray.empty
  · subst h0
    by_cases n0 : n = 0
    · subst n0
      by_cases m1 : m = 0
      · subst m1
        have HT := hide (rightD_yes (k := 4) (s := ByteArray.empty) (n := 0) (ks := ks) (by simp [topB, isEmpty_true, hm]))
        have bW := Blk.new w 25 #[.int .i64 4, .string ByteArray.empty, .int .i64 0, .slice a 0 cap]
        have hbW : Below w.heap.size w (w.alloc (.cells #[.int .i64 4, .string ByteArray.empty, .int .i64 0, .slice a 0 cap] 25)) := (Below.refl _ w).alloc (Nat.le_refl _) _
        unfold Says; rw [HT.out]; clear HT
        have HM := hide hm
        clear hm
        obtain ⟨W, hW⟩ : ∃ W, w.alloc (.cells #[.int .i64 4, .string ByteArray.empty, .int .i64 0, .slice a 0 cap] 25) = W := ⟨_, rfl⟩
        rw [hW] at bW hbW
        have hzW : W.heap.size = w.heap.size + 1 := by rw [← hW]; simp
        obtain ⟨b0, b1, b2, b3⟩ := bW.four
        have HB := hide bW
        clear bW
        go_enter Try.func9, Try.ntmps9
        go_wp2_with fail
        clear b0 b1 b2 b3 hW
        go_loopw [4] (fun i wr => ∃ q : Nat, q ≤ ks.len ∧ i = .int .i64 q ∧ Below W.heap.size W wr ∧ ks.toL.all rightD = (ks.toL.drop q).all rightD) (fun i _ => ks.len - (intOf i).toNat)
        case atStart => exact ⟨0, Nat.zero_le _, rfl, Below.refl _ _, rfl⟩
        case round =>
          obtain ⟨q, hq, rfl, hb, hr⟩ := hrel
          have HR := hide hr
          clear hr
          obtain ⟨b0, b1, b2, b3⟩ := (HB.out.below hb (by omega)).four
          by_cases hlt : q < ks.len
          · exact absurd hlt (by rw [HM.out]; omega)
          · have hlt' : ¬ q < 0 := by rw [← HM.out]; exact hlt
            go_wp2_with fail
            go_ret
            refine ⟨?_, hbW.trans (hb.mono (by omega))⟩
            rw [HR.out, List.drop_eq_nil_of_le (by rw [Dcs.len_toL]; omega)]
            rfl
      · have m1' : ((m : Int) == 0) = false := beq_eq_false_iff_ne.2 (by omega)
        have HT := hide (rightD_no (k := 4) (s := ByteArray.empty) (n := 0) (ks := ks) (by simp [topB, isEmpty_true, hm, m1]))
        have bW := Blk.new w 25 #[.int .i64 4, .string ByteArray.empty, .int .i64 0, .slice a m cap]
        have hbW : Below w.heap.size w (w.alloc (.cells #[.int .i64 4, .string ByteArray.empty, .int .i64 0, .slice a m cap] 25)) := (Below.refl _ w).alloc (Nat.le_refl _) _
        unfold Says; rw [HT.out]; clear HT
        clear hm
        go_enter Try.func9, Try.ntmps9
        go_wp2_with fail
        go_ret
        exact ⟨rfl, hbW⟩
    · have n0' : (n == 0) = false := beq_eq_false_iff_ne.2 n0
      have HT := hide (rightD_no (k := 4) (s := ByteArray.empty) (n := n) (ks := ks) (by simp [topB, isEmpty_true, n0]))
      have bW := Blk.new w 25 #[.int .i64 4, .string ByteArray.empty, .int .i64 n, .slice a m cap]
      have hbW : Below w.heap.size w (w.alloc (.cells #[.int .i64 4, .string ByteArray.empty, .int .i64 n, .slice a m cap] 25)) := (Below.refl _ w).alloc (Nat.le_refl _) _
      unfold Says; rw [HT.out]; clear HT
      clear hm
      go_enter Try.func9, Try.ntmps9
      go_wp2_with fail
      go_ret
      exact ⟨rfl, hbW⟩
  · have e1 := isEmpty_false h0
    clear h0
    have HT := hide (rightD_no (k := 4) (s := s) (n := n) (ks := ks) (by simp [topB, e1]))
    have bW := Blk.new w 25 #[.int .i64 4, .string s, .int .i64 n, .slice a m cap]
    have hbW : Below w.heap.size w (w.alloc (.cells #[.int .i64 4, .string s, .int .i64 n, .slice a m cap] 25)) := (Below.refl _ w).alloc (Nat.le_refl _) _
    unfold Says; rw [HT.out]; clear HT
    clear hm
    go_enter Try.func9, Try.ntmps9
    go_wp2_with fail
    go_ret
    exact ⟨rfl, hbW⟩

set_option maxHeartbeats 4000000 in
theorem refRight_k5 (s : ByteArray) (n : Int) (ks : Dcs) (a : Option Addr) (cap : Nat) (w : World) (hn : -9223372036854775808 ≤ n ∧ n ≤ 9223372036854775807) (hs : s.size ≤ maxLen) (hl : ks.len ≤ maxLen) (hks : ks.len ≠ 0 → ∃ b o, a = some ⟨b, o, none⟩ ∧ b < w.heap.size ∧ IsDcs w (· < w.heap.size) b o ks) (IH : ∀ d ∈ ks.toL, RefRightOk d) : Calls Try.prog 9 #[.agg #[.int .i64 5, .string s, .int .i64 n, .slice a ks.len cap]] w (Says (rightD (.mk 5 s n ks)) w) := by
  simp only [maxLen] at hl
  obtain ⟨m, hm⟩ : ∃ m, ks.len = m := ⟨_, rfl⟩
  rw [hm] at hl ⊢
  by_cases h0 : s = ByteArray.empty
  · subst h0
    by_cases n0 : n = 0
    · subst n0
      by_cases m1 : m = 1
      · subst m1
        have HT := hide (rightD_yes (k := 5) (s := ByteArray.empty) (n := 0) (ks := ks) (by simp [topB, isEmpty_true, hm]))
        have bW := Blk.new w 25 #[.int .i64 5, .string ByteArray.empty, .int .i64 0, .slice a 1 cap]
        have hbW : Below w.heap.size w (w.alloc (.cells #[.int .i64 5, .string ByteArray.empty, .int .i64 0, .slice a 1 cap] 25)) := (Below.refl _ w).alloc (Nat.le_refl _) _
        unfold Says; rw [HT.out]; clear HT
        have HM := hide hm
        clear hm
        obtain ⟨W, hW⟩ : ∃ W, w.alloc (.cells #[.int .i64 5, .string ByteArray.empty, .int .i64 0, .slice a 1 cap] 25) = W := ⟨_, rfl⟩
        rw [hW] at bW hbW
        have hzW : W.heap.size = w.heap.size + 1 := by rw [← hW]; simp
        obtain ⟨b0, b1, b2, b3⟩ := bW.four
        have HB := hide bW
        clear bW
        go_enter Try.func9, Try.ntmps9
        go_wp2_with fail
        clear b0 b1 b2 b3 hW
        go_loopw [4] (fun i wr => ∃ q : Nat, q ≤ ks.len ∧ i = .int .i64 q ∧ Below W.heap.size W wr ∧ ks.toL.all rightD = (ks.toL.drop q).all rightD) (fun i _ => ks.len - (intOf i).toNat)
        case atStart => exact ⟨0, Nat.zero_le _, rfl, Below.refl _ _, rfl⟩
        case round =>
          obtain ⟨q, hq, rfl, hb, hr⟩ := hrel
          have HR := hide hr
          clear hr
          obtain ⟨b0, b1, b2, b3⟩ := (HB.out.below hb (by omega)).four
          by_cases hlt : q < ks.len
          · obtain ⟨b, o, rfl, hFb, hkk⟩ := hks (by omega)
            have hql : q < ks.toL.length := by rw [Dcs.len_toL]; exact hlt
            obtain ⟨c0, c1, c2, c3, g0, g1, g2, g3, hc⟩ := hkk.get (k := q) (d := ks.toL[q]) (List.getElem?_eq_getElem hql)
            have hw : ∀ i, wr.cell? ⟨b, i, none⟩ = w.cell? ⟨b, i, none⟩ := fun i => (hb.cell (p := ⟨b, i, none⟩) (by show b < _; omega)).trans (hbW.cell (p := ⟨b, i, none⟩) hFb)
            rw [← hw] at g0 g1 g2 g3
            have hc' : IsDc wr (· < wr.heap.size) ks.toL[q] (.agg #[c0, c1, c2, c3]) := IsDc.keep (fun x hx => ⟨by have := hb.size; omega, (hb.block x (by omega)).trans (hbW.block x hx)⟩) _ _ hc
            have HC := hide (IH ks.toL[q] (List.getElem_mem hql) _ wr hc')
            have hdr : (ks.toL.drop q).all rightD = (rightD ks.toL[q] && (ks.toL.drop (q + 1)).all rightD) := by rw [List.drop_eq_getElem_cons hql]; rfl
            have HD := hide hdr
            have hlt' : q < 1 := by rw [← HM.out]; exact hlt
            clear hdr hc hc' hw
            go_wp2_with fail
            refine (unhide HC).mono ?_
            rintro e w1 ⟨rfl, hb1⟩
            cases hx : rightD ks.toL[q] with
            | false =>
              go_wp2_with fail
              go_ret
              exact ⟨by rw [HR.out, HD.out, hx]; rfl, hbW.trans ((hb.mono (by omega)).trans (hb1.mono (by have := hb.size; omega)))⟩
            | true =>
              go_wp2_with fail
              go_roundw
              case rel => exact ⟨q + 1, by omega, by go_num, hb.trans (hb1.mono (by have := hb.size; omega)), by rw [HR.out, HD.out, hx]; rfl⟩
              case measure => simp [intOf]; omega
          · have hlt' : ¬ q < 1 := by rw [← HM.out]; exact hlt
            go_wp2_with fail
            go_ret
            refine ⟨?_, hbW.trans (hb.mono (by omega))⟩
            rw [HR.out, List.drop_eq_nil_of_le (by rw [Dcs.len_toL]; omega)]
            rfl
      · have m1' : ((m : Int) == 1) = false := beq_eq_false_iff_ne.2 (by omega)
        have HT := hide (rightD_no (k := 5) (s := ByteArray.empty) (n := 0) (ks := ks) (by simp [topB, isEmpty_true, hm, m1]))
        have bW := Blk.new w 25 #[.int .i64 5, .string ByteArray.empty, .int .i64 0, .slice a m cap]
        have hbW : Below w.heap.size w (w.alloc (.cells #[.int .i64 5, .string ByteArray.empty, .int .i64 0, .slice a m cap] 25)) := (Below.refl _ w).alloc (Nat.le_refl _) _
        unfold Says; rw [HT.out]; clear HT
        clear hm
        go_enter Try.func9, Try.ntmps9
        go_wp2_with fail
        go_ret
        exact ⟨rfl, hbW⟩
    · have n0' : (n == 0) = false := beq_eq_false_iff_ne.2 n0
      by_cases n1 : n < -1000
      · have n2 : ¬ -1000 ≤ n := by omega
        have HT := hide (rightD_no (k := 5) (s := ByteArray.empty) (n := n) (ks := ks) (by simp [topB, isEmpty_true, n0, n2]))
        have bW := Blk.new w 25 #[.int .i64 5, .string ByteArray.empty, .int .i64 n, .slice a m cap]
        have hbW : Below w.heap.size w (w.alloc (.cells #[.int .i64 5, .string ByteArray.empty, .int .i64 n, .slice a m cap] 25)) := (Below.refl _ w).alloc (Nat.le_refl _) _
        unfold Says; rw [HT.out]; clear HT
        clear hm
        go_enter Try.func9, Try.ntmps9
        go_wp2_with fail
        go_ret
        exact ⟨rfl, hbW⟩
      · have n2 : -1000 ≤ n := by omega
        by_cases n3 : 1000 < n
        · have n4 : ¬ n ≤ 1000 := by omega
          have HT := hide (rightD_no (k := 5) (s := ByteArray.empty) (n := n) (ks := ks) (by simp [topB, isEmpty_true, n0, n2, n4]))
          have bW := Blk.new w 25 #[.int .i64 5, .string ByteArray.empty, .int .i64 n, .slice a m cap]
          have hbW : Below w.heap.size w (w.alloc (.cells #[.int .i64 5, .string ByteArray.empty, .int .i64 n, .slice a m cap] 25)) := (Below.refl _ w).alloc (Nat.le_refl _) _
          unfold Says; rw [HT.out]; clear HT
          clear hm
          go_enter Try.func9, Try.ntmps9
          go_wp2_with fail
          go_ret
          exact ⟨rfl, hbW⟩
        · have n4 : n ≤ 1000 := by omega
          by_cases m1 : m = 1
          · subst m1
            have HT := hide (rightD_yes (k := 5) (s := ByteArray.empty) (n := n) (ks := ks) (by simp [topB, isEmpty_true, n0, n2, n4, hm]))
            have bW := Blk.new w 25 #[.int .i64 5, .string ByteArray.empty, .int .i64 n, .slice a 1 cap]
            have hbW : Below w.heap.size w (w.alloc (.cells #[.int .i64 5, .string ByteArray.empty, .int .i64 n, .slice a 1 cap] 25)) := (Below.refl _ w).alloc (Nat.le_refl _) _
            unfold Says; rw [HT.out]; clear HT
            have HM := hide hm
            clear hm
            obtain ⟨W, hW⟩ : ∃ W, w.alloc (.cells #[.int .i64 5, .string ByteArray.empty, .int .i64 n, .slice a 1 cap] 25) = W := ⟨_, rfl⟩
            rw [hW] at bW hbW
            have hzW : W.heap.size = w.heap.size + 1 := by rw [← hW]; simp
            obtain ⟨b0, b1, b2, b3⟩ := bW.four
            have HB := hide bW
            clear bW
            go_enter Try.func9, Try.ntmps9
            go_wp2_with fail
            clear b0 b1 b2 b3 hW
            go_loopw [4] (fun i wr => ∃ q : Nat, q ≤ ks.len ∧ i = .int .i64 q ∧ Below W.heap.size W wr ∧ ks.toL.all rightD = (ks.toL.drop q).all rightD) (fun i _ => ks.len - (intOf i).toNat)
            case atStart => exact ⟨0, Nat.zero_le _, rfl, Below.refl _ _, rfl⟩
            case round =>
              obtain ⟨q, hq, rfl, hb, hr⟩ := hrel
              have HR := hide hr
              clear hr
              obtain ⟨b0, b1, b2, b3⟩ := (HB.out.below hb (by omega)).four
              by_cases hlt : q < ks.len
              · obtain ⟨b, o, rfl, hFb, hkk⟩ := hks (by omega)
                have hql : q < ks.toL.length := by rw [Dcs.len_toL]; exact hlt
                obtain ⟨c0, c1, c2, c3, g0, g1, g2, g3, hc⟩ := hkk.get (k := q) (d := ks.toL[q]) (List.getElem?_eq_getElem hql)
                have hw : ∀ i, wr.cell? ⟨b, i, none⟩ = w.cell? ⟨b, i, none⟩ := fun i => (hb.cell (p := ⟨b, i, none⟩) (by show b < _; omega)).trans (hbW.cell (p := ⟨b, i, none⟩) hFb)
                rw [← hw] at g0 g1 g2 g3
                have hc' : IsDc wr (· < wr.heap.size) ks.toL[q] (.agg #[c0, c1, c2, c3]) := IsDc.keep (fun x hx => ⟨by have := hb.size; omega, (hb.block x (by omega)).trans (hbW.block x hx)⟩) _ _ hc
                have HC := hide (IH ks.toL[q] (List.getElem_mem hql) _ wr hc')
                have hdr : (ks.toL.drop q).all rightD = (rightD ks.toL[q] && (ks.toL.drop (q + 1)).all rightD) := by rw [List.drop_eq_getElem_cons hql]; rfl
                have HD := hide hdr
                have hlt' : q < 1 := by rw [← HM.out]; exact hlt
                clear hdr hc hc' hw
                go_wp2_with fail
                refine (unhide HC).mono ?_
                rintro e w1 ⟨rfl, hb1⟩
                cases hx : rightD ks.toL[q] with
                | false =>
                  go_wp2_with fail
                  go_ret
                  exact ⟨by rw [HR.out, HD.out, hx]; rfl, hbW.trans ((hb.mono (by omega)).trans (hb1.mono (by have := hb.size; omega)))⟩
                | true =>
                  go_wp2_with fail
                  go_roundw
                  case rel => exact ⟨q + 1, by omega, by go_num, hb.trans (hb1.mono (by have := hb.size; omega)), by rw [HR.out, HD.out, hx]; rfl⟩
                  case measure => simp [intOf]; omega
              · have hlt' : ¬ q < 1 := by rw [← HM.out]; exact hlt
                go_wp2_with fail
                go_ret
                refine ⟨?_, hbW.trans (hb.mono (by omega))⟩
                rw [HR.out, List.drop_eq_nil_of_le (by rw [Dcs.len_toL]; omega)]
                rfl
          · have m1' : ((m : Int) == 1) = false := beq_eq_false_iff_ne.2 (by omega)
            have HT := hide (rightD_no (k := 5) (s := ByteArray.empty) (n := n) (ks := ks) (by simp [topB, isEmpty_true, n0, n2, n4, hm, m1]))
            have bW := Blk.new w 25 #[.int .i64 5, .string ByteArray.empty, .int .i64 n, .slice a m cap]
            have hbW : Below w.heap.size w (w.alloc (.cells #[.int .i64 5, .string ByteArray.empty, .int .i64 n, .slice a m cap] 25)) := (Below.refl _ w).alloc (Nat.le_refl _) _
            unfold Says; rw [HT.out]; clear HT
            clear hm
            go_enter Try.func9, Try.ntmps9
            go_wp2_with fail
            go_ret
            exact ⟨rfl, hbW⟩
  · have e1 := isEmpty_false h0
    clear h0
    have HT := hide (rightD_no (k := 5) (s := s) (n := n) (ks := ks) (by simp [topB, e1]))
    have bW := Blk.new w 25 #[.int .i64 5, .string s, .int .i64 n, .slice a m cap]
    have hbW : Below w.heap.size w (w.alloc (.cells #[.int .i64 5, .string s, .int .i64 n, .slice a m cap] 25)) := (Below.refl _ w).alloc (Nat.le_refl _) _
    unfold Says; rw [HT.out]; clear HT
    clear hm
    go_enter Try.func9, Try.ntmps9
    go_wp2_with fail
    go_ret
    exact ⟨rfl, hbW⟩

set_option maxHeartbeats 4000000 in
theorem refRight_k6 (s : ByteArray) (n : Int) (ks : Dcs) (a : Option Addr) (cap : Nat) (w : World) (hn : -9223372036854775808 ≤ n ∧ n ≤ 9223372036854775807) (hs : s.size ≤ maxLen) (hl : ks.len ≤ maxLen) (hks : ks.len ≠ 0 → ∃ b o, a = some ⟨b, o, none⟩ ∧ b < w.heap.size ∧ IsDcs w (· < w.heap.size) b o ks) (IH : ∀ d ∈ ks.toL, RefRightOk d) : Calls Try.prog 9 #[.agg #[.int .i64 6, .string s, .int .i64 n, .slice a ks.len cap]] w (Says (rightD (.mk 6 s n ks)) w) := by
  simp only [maxLen] at hl
  obtain ⟨m, hm⟩ : ∃ m, ks.len = m := ⟨_, rfl⟩
  rw [hm] at hl ⊢
  by_cases h0 : s = ByteArray.empty
  · subst h0
    by_cases n0 : n = 0
    · subst n0
      by_cases m1 : m = 1
      · subst m1
        have HT := hide (rightD_yes (k := 6) (s := ByteArray.empty) (n := 0) (ks := ks) (by simp [topB, isEmpty_true, hm]))
        have bW := Blk.new w 25 #[.int .i64 6, .string ByteArray.empty, .int .i64 0, .slice a 1 cap]
        have hbW : Below w.heap.size w (w.alloc (.cells #[.int .i64 6, .string ByteArray.empty, .int .i64 0, .slice a 1 cap] 25)) := (Below.refl _ w).alloc (Nat.le_refl _) _
        unfold Says; rw [HT.out]; clear HT
        have HM := hide hm
        clear hm
        obtain ⟨W, hW⟩ : ∃ W, w.alloc (.cells #[.int .i64 6, .string ByteArray.empty, .int .i64 0, .slice a 1 cap] 25) = W := ⟨_, rfl⟩
        rw [hW] at bW hbW
        have hzW : W.heap.size = w.heap.size + 1 := by rw [← hW]; simp
        obtain ⟨b0, b1, b2, b3⟩ := bW.four
        have HB := hide bW
        clear bW
        go_enter Try.func9, Try.ntmps9
        go_wp2_with fail
        clear b0 b1 b2 b3 hW
        go_loopw [4] (fun i wr => ∃ q : Nat, q ≤ ks.len ∧ i = .int .i64 q ∧ Below W.heap.size W wr ∧ ks.toL.all rightD = (ks.toL.drop q).all rightD) (fun i _ => ks.len - (intOf i).toNat)
        case atStart => exact ⟨0, Nat.zero_le _, rfl, Below.refl _ _, rfl⟩
        case round =>
          obtain ⟨q, hq, rfl, hb, hr⟩ := hrel
          have HR := hide hr
          clear hr
          obtain ⟨b0, b1, b2, b3⟩ := (HB.out.below hb (by omega)).four
          by_cases hlt : q < ks.len
          · obtain ⟨b, o, rfl, hFb, hkk⟩ := hks (by omega)
            have hql : q < ks.toL.length := by rw [Dcs.len_toL]; exact hlt
            obtain ⟨c0, c1, c2, c3, g0, g1, g2, g3, hc⟩ := hkk.get (k := q) (d := ks.toL[q]) (List.getElem?_eq_getElem hql)
            have hw : ∀ i, wr.cell? ⟨b, i, none⟩ = w.cell? ⟨b, i, none⟩ := fun i => (hb.cell (p := ⟨b, i, none⟩) (by show b < _; omega)).trans (hbW.cell (p := ⟨b, i, none⟩) hFb)
            rw [← hw] at g0 g1 g2 g3
            have hc' : IsDc wr (· < wr.heap.size) ks.toL[q] (.agg #[c0, c1, c2, c3]) := IsDc.keep (fun x hx => ⟨by have := hb.size; omega, (hb.block x (by omega)).trans (hbW.block x hx)⟩) _ _ hc
            have HC := hide (IH ks.toL[q] (List.getElem_mem hql) _ wr hc')
            have hdr : (ks.toL.drop q).all rightD = (rightD ks.toL[q] && (ks.toL.drop (q + 1)).all rightD) := by rw [List.drop_eq_getElem_cons hql]; rfl
            have HD := hide hdr
            have hlt' : q < 1 := by rw [← HM.out]; exact hlt
            clear hdr hc hc' hw
            go_wp2_with fail
            refine (unhide HC).mono ?_
            rintro e w1 ⟨rfl, hb1⟩
            cases hx : rightD ks.toL[q] with
            | false =>
              go_wp2_with fail
              go_ret
              exact ⟨by rw [HR.out, HD.out, hx]; rfl, hbW.trans ((hb.mono (by omega)).trans (hb1.mono (by have := hb.size; omega)))⟩
            | true =>
              go_wp2_with fail
              go_roundw
              case rel => exact ⟨q + 1, by omega, by go_num, hb.trans (hb1.mono (by have := hb.size; omega)), by rw [HR.out, HD.out, hx]; rfl⟩
              case measure => simp [intOf]; omega
          · have hlt' : ¬ q < 1 := by rw [← HM.out]; exact hlt
            go_wp2_with fail
            go_ret
            refine ⟨?_, hbW.trans (hb.mono (by omega))⟩
            rw [HR.out, List.drop_eq_nil_of_le (by rw [Dcs.len_toL]; omega)]
            rfl
      · have m1' : ((m : Int) == 1) = false := beq_eq_false_iff_ne.2 (by omega)
        have HT := hide (rightD_no (k := 6) (s := ByteArray.empty) (n := 0) (ks := ks) (by simp [topB, isEmpty_true, hm, m1]))
        have bW := Blk.new w 25 #[.int .i64 6, .string ByteArray.empty, .int .i64 0, .slice a m cap]
        have hbW : Below w.heap.size w (w.alloc (.cells #[.int .i64 6, .string ByteArray.empty, .int .i64 0, .slice a m cap] 25)) := (Below.refl _ w).alloc (Nat.le_refl _) _
        unfold Says; rw [HT.out]; clear HT
        clear hm
        go_enter Try.func9, Try.ntmps9
        go_wp2_with fail
        go_ret
        exact ⟨rfl, hbW⟩
    · have n0' : (n == 0) = false := beq_eq_false_iff_ne.2 n0
      have HT := hide (rightD_no (k := 6) (s := ByteArray.empty) (n := n) (ks := ks) (by simp [topB, isEmpty_true, n0]))
      have bW := Blk.new w 25 #[.int .i64 6, .string ByteArray.empty, .int .i64 n, .slice a m cap]
      have hbW : Below w.heap.size w (w.alloc (.cells #[.int .i64 6, .string ByteArray.empty, .int .i64 n, .slice a m cap] 25)) := (Below.refl _ w).alloc (Nat.le_refl _) _
      unfold Says; rw [HT.out]; clear HT
      clear hm
      go_enter Try.func9, Try.ntmps9
      go_wp2_with fail
      go_ret
      exact ⟨rfl, hbW⟩
  · have e1 := isEmpty_false h0
    clear h0
    have HT := hide (rightD_no (k := 6) (s := s) (n := n) (ks := ks) (by simp [topB, e1]))
    have bW := Blk.new w 25 #[.int .i64 6, .string s, .int .i64 n, .slice a m cap]
    have hbW : Below w.heap.size w (w.alloc (.cells #[.int .i64 6, .string s, .int .i64 n, .slice a m cap] 25)) := (Below.refl _ w).alloc (Nat.le_refl _) _
    unfold Says; rw [HT.out]; clear HT
    clear hm
    go_enter Try.func9, Try.ntmps9
    go_wp2_with fail
    go_ret
    exact ⟨rfl, hbW⟩

set_option maxHeartbeats 4000000 in
theorem refRight_k7 (s : ByteArray) (n : Int) (ks : Dcs) (a : Option Addr) (cap : Nat) (w : World) (hn : -9223372036854775808 ≤ n ∧ n ≤ 9223372036854775807) (hs : s.size ≤ maxLen) (hl : ks.len ≤ maxLen) (hks : ks.len ≠ 0 → ∃ b o, a = some ⟨b, o, none⟩ ∧ b < w.heap.size ∧ IsDcs w (· < w.heap.size) b o ks) (IH : ∀ d ∈ ks.toL, RefRightOk d) : Calls Try.prog 9 #[.agg #[.int .i64 7, .string s, .int .i64 n, .slice a ks.len cap]] w (Says (rightD (.mk 7 s n ks)) w) := by
  simp only [maxLen] at hl
  obtain ⟨m, hm⟩ : ∃ m, ks.len = m := ⟨_, rfl⟩
  rw [hm] at hl ⊢
  by_cases h0 : s = ByteArray.empty
  · subst h0
    by_cases n0 : n = 0
    · subst n0
      have HT := hide (rightD_yes (k := 7) (s := ByteArray.empty) (n := 0) (ks := ks) (by simp [topB, isEmpty_true]))
      have bW := Blk.new w 25 #[.int .i64 7, .string ByteArray.empty, .int .i64 0, .slice a m cap]
      have hbW : Below w.heap.size w (w.alloc (.cells #[.int .i64 7, .string ByteArray.empty, .int .i64 0, .slice a m cap] 25)) := (Below.refl _ w).alloc (Nat.le_refl _) _
      unfold Says; rw [HT.out]; clear HT
      have HM := hide hm
      clear hm
      obtain ⟨W, hW⟩ : ∃ W, w.alloc (.cells #[.int .i64 7, .string ByteArray.empty, .int .i64 0, .slice a m cap] 25) = W := ⟨_, rfl⟩
      rw [hW] at bW hbW
      have hzW : W.heap.size = w.heap.size + 1 := by rw [← hW]; simp
      obtain ⟨b0, b1, b2, b3⟩ := bW.four
      have HB := hide bW
      clear bW
      go_enter Try.func9, Try.ntmps9
      go_wp2_with fail
      clear b0 b1 b2 b3 hW
      go_loopw [4] (fun i wr => ∃ q : Nat, q ≤ ks.len ∧ i = .int .i64 q ∧ Below W.heap.size W wr ∧ ks.toL.all rightD = (ks.toL.drop q).all rightD) (fun i _ => ks.len - (intOf i).toNat)
      case atStart => exact ⟨0, Nat.zero_le _, rfl, Below.refl _ _, rfl⟩
      case round =>
        obtain ⟨q, hq, rfl, hb, hr⟩ := hrel
        have HR := hide hr
        clear hr
        obtain ⟨b0, b1, b2, b3⟩ := (HB.out.below hb (by omega)).four
        by_cases hlt : q < ks.len
        · obtain ⟨b, o, rfl, hFb, hkk⟩ := hks (by omega)
          have hql : q < ks.toL.length := by rw [Dcs.len_toL]; exact hlt
          obtain ⟨c0, c1, c2, c3, g0, g1, g2, g3, hc⟩ := hkk.get (k := q) (d := ks.toL[q]) (List.getElem?_eq_getElem hql)
          have hw : ∀ i, wr.cell? ⟨b, i, none⟩ = w.cell? ⟨b, i, none⟩ := fun i => (hb.cell (p := ⟨b, i, none⟩) (by show b < _; omega)).trans (hbW.cell (p := ⟨b, i, none⟩) hFb)
          rw [← hw] at g0 g1 g2 g3
          have hc' : IsDc wr (· < wr.heap.size) ks.toL[q] (.agg #[c0, c1, c2, c3]) := IsDc.keep (fun x hx => ⟨by have := hb.size; omega, (hb.block x (by omega)).trans (hbW.block x hx)⟩) _ _ hc
          have HC := hide (IH ks.toL[q] (List.getElem_mem hql) _ wr hc')
          have hdr : (ks.toL.drop q).all rightD = (rightD ks.toL[q] && (ks.toL.drop (q + 1)).all rightD) := by rw [List.drop_eq_getElem_cons hql]; rfl
          have HD := hide hdr
          have hlt' : q < m := by rw [← HM.out]; exact hlt
          clear hdr hc hc' hw
          go_wp2_with fail
          refine (unhide HC).mono ?_
          rintro e w1 ⟨rfl, hb1⟩
          cases hx : rightD ks.toL[q] with
          | false =>
            go_wp2_with fail
            go_ret
            exact ⟨by rw [HR.out, HD.out, hx]; rfl, hbW.trans ((hb.mono (by omega)).trans (hb1.mono (by have := hb.size; omega)))⟩
          | true =>
            go_wp2_with fail
            go_roundw
            case rel => exact ⟨q + 1, by omega, by go_num, hb.trans (hb1.mono (by have := hb.size; omega)), by rw [HR.out, HD.out, hx]; rfl⟩
            case measure => simp [intOf]; omega
        · have hlt' : ¬ q < m := by rw [← HM.out]; exact hlt
          go_wp2_with fail
          go_ret
          refine ⟨?_, hbW.trans (hb.mono (by omega))⟩
          rw [HR.out, List.drop_eq_nil_of_le (by rw [Dcs.len_toL]; omega)]
          rfl
    · have n0' : (n == 0) = false := beq_eq_false_iff_ne.2 n0
      have HT := hide (rightD_no (k := 7) (s := ByteArray.empty) (n := n) (ks := ks) (by simp [topB, isEmpty_true, n0]))
      have bW := Blk.new w 25 #[.int .i64 7, .string ByteArray.empty, .int .i64 n, .slice a m cap]
      have hbW : Below w.heap.size w (w.alloc (.cells #[.int .i64 7, .string ByteArray.empty, .int .i64 n, .slice a m cap] 25)) := (Below.refl _ w).alloc (Nat.le_refl _) _
      unfold Says; rw [HT.out]; clear HT
      clear hm
      go_enter Try.func9, Try.ntmps9
      go_wp2_with fail
      go_ret
      exact ⟨rfl, hbW⟩
  · have e1 := isEmpty_false h0
    clear h0
    have HT := hide (rightD_no (k := 7) (s := s) (n := n) (ks := ks) (by simp [topB, e1]))
    have bW := Blk.new w 25 #[.int .i64 7, .string s, .int .i64 n, .slice a m cap]
    have hbW : Below w.heap.size w (w.alloc (.cells #[.int .i64 7, .string s, .int .i64 n, .slice a m cap] 25)) := (Below.refl _ w).alloc (Nat.le_refl _) _
    unfold Says; rw [HT.out]; clear HT
    clear hm
    go_enter Try.func9, Try.ntmps9
    go_wp2_with fail
    go_ret
    exact ⟨rfl, hbW⟩

set_option maxHeartbeats 1000000 in
theorem refRight_any (d : Dc) : RefRightOk d := by
  refine Dc.ind_ (P := RefRightOk) ?_ d
  intro k s n ks IH v w hD
  rw [IsDc] at hD
  obtain ⟨a, cap, rfl, hk, hn, hs, hl, hks⟩ := hD
  by_cases h0 : k < 0
  · have HT := hide (rightD_no (k := k) (s := s) (n := n) (ks := ks) (by simp [topB, show ¬ 0 ≤ k by omega]))
    unfold Says; rw [HT.out]; clear HT
    have hbW : Below w.heap.size w (w.alloc (.cells #[.int .i64 k, .string s, .int .i64 n, .slice a ks.len cap] 25)) := (Below.refl _ w).alloc (Nat.le_refl _) _
    go_enter Try.func9, Try.ntmps9
    go_wp2_with fail
    go_ret
    exact ⟨rfl, hbW⟩
  by_cases h7 : 7 < k
  · have HT := hide (rightD_no (k := k) (s := s) (n := n) (ks := ks) (by simp [topB, show ¬ k ≤ 7 by omega]))
    unfold Says; rw [HT.out]; clear HT
    have hbW : Below w.heap.size w (w.alloc (.cells #[.int .i64 k, .string s, .int .i64 n, .slice a ks.len cap] 25)) := (Below.refl _ w).alloc (Nat.le_refl _) _
    go_enter Try.func9, Try.ntmps9
    go_wp2_with fail
    go_ret
    exact ⟨rfl, hbW⟩
  have hcase : k = 0 ∨ k = 1 ∨ k = 2 ∨ k = 3 ∨ k = 4 ∨ k = 5 ∨ k = 6 ∨ k = 7 := by omega
  rcases hcase with rfl | rfl | rfl | rfl | rfl | rfl | rfl | rfl
  · exact refRight_k0 s n ks a cap w hn hs hl hks IH
  · exact refRight_k1 s n ks a cap w hn hs hl hks IH
  · exact refRight_k2 s n ks a cap w hn hs hl hks IH
  · exact refRight_k3 s n ks a cap w hn hs hl hks IH
  · exact refRight_k4 s n ks a cap w hn hs hl hks IH
  · exact refRight_k5 s n ks a cap w hn hs hl hks IH
  · exact refRight_k6 s n ks a cap w hn hs hl hks IH
  · exact refRight_k7 s n ks a cap w hn hs hl hks IH
end Go.Proofs.Ytggbocimapdidaa
