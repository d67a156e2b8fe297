/-
  The plain law: of a document that is right, the program's Words, hard and line are the reference's.
  Its condition: the document is right.
-/
import Derived.Test.YtggbocimapdidaaGenP
import Derived.Test.YtggbocimapdidaaRefRight
import Derived.Test.YtggbocimapdidaaWord
namespace Go.Proofs.Ytggbocimapdidaa
open Go.RowKit Go.WideShapes

theorem right_out {k n : Int} {s : ByteArray} {ks : Dcs} (h : rightD (.mk k s n ks) = true) : 0 ≤ k ∧ k ≤ 7 ∧ (k ≠ 1 → s = ByteArray.empty) ∧ (k < 5 → ks = .nil) ∧ rightDs ks = true := by
  rw [rightD, Bool.and_eq_true] at h
  obtain ⟨h1, h2⟩ := h
  simp only [topB, Bool.and_eq_true, decide_eq_true_eq, beq_iff_eq, Bool.or_eq_true, Bool.not_eq_true'] at h1
  obtain ⟨⟨⟨⟨⟨⟨⟨a1, a2⟩, a3⟩, a4⟩, a5⟩, a6⟩, a7⟩, a8⟩ := h1
  refine ⟨a1, a2, fun hk => ?_, fun hk => ?_, h2⟩
  · rw [decide_eq_false hk] at a3
    have : s.toList.isEmpty = true := by simpa using a3
    by_cases hs : s = ByteArray.empty
    · exact hs
    · rw [isEmpty_false hs] at this; cases this
  · rcases a8 with a8 | a8
    · simp at a8; omega
    · match ks, a8 with
      | .nil, _ => rfl
      | .cons _ _, a8 => simp [Dcs.len] at a8

theorem hardL_append (a b : List Dc) : hardL (a ++ b) = (hardL a || hardL b) := by simp [hardL]
theorem bytes_eq {a : ByteArray} {l : List UInt8} (h : a.data.toList = l) : (⟨l.toArray⟩ : ByteArray) = a := by
  subst h
  rfl

mutual
theorem hard_same : ∀ d : Dc, rightD d = true → hardL (leavesD d) = hardD d
  | .mk k s n ks, h => by
    obtain ⟨h0, h7, _, h5, hr⟩ := right_out h
    rw [leavesD, hardD]
    by_cases hk : k < 5
    · rw [if_pos hk, decide_eq_false (show ¬ 5 ≤ k by omega)]
      by_cases k4 : k = 4 <;> simp [hardL, Dc.kind, k4]
    · rw [if_neg hk, hards_same ks hr, decide_eq_false (show ¬ k = 4 by omega), decide_eq_true (show 5 ≤ k by omega), decide_eq_true h7]
      simp
theorem hards_same : ∀ ks : Dcs, rightDs ks = true → hardL (leavesDs ks) = hardDs ks
  | .nil, _ => by rw [leavesDs, hardDs]; rfl
  | .cons d r, h => by
    rw [rightDs, Bool.and_eq_true] at h
    rw [leavesDs, hardDs, hardL_append, hard_same d h.1, hards_same r h.2]
end
mutual
theorem line_same : ∀ d : Dc, rightD d = true → (flatD d).data.toList = lineL (leavesD d)
  | .mk k s n ks, h => by
    obtain ⟨h0, h7, h1, h5, hr⟩ := right_out h
    rw [leavesD, flatD]
    by_cases hk : k < 5
    · rw [if_pos hk, if_neg (show ¬ (5 ≤ k ∧ k ≤ 7) by omega), ByteArray.append_empty]
      by_cases k2 : k = 2
      · subst k2
        rfl
      · rw [if_neg k2]
        by_cases k1 : k = 1
        · rw [if_pos k1]; simp [lineL, lineD, Dc.kind, Dc.text, k2]
        · rw [if_neg k1, h1 k1]; simp [lineL, lineD, Dc.kind, Dc.text, k2]
    · rw [if_neg hk, if_neg (show ¬ k = 1 by omega), if_neg (show ¬ k = 2 by omega), if_pos (show 5 ≤ k ∧ k ≤ 7 by omega), ByteArray.empty_append]
      exact lines_same ks hr
theorem lines_same : ∀ ks : Dcs, rightDs ks = true → (flatDs ks).data.toList = lineL (leavesDs ks)
  | .nil, _ => by rw [leavesDs, flatDs]; rfl
  | .cons d r, h => by
    rw [rightDs, Bool.and_eq_true] at h
    rw [leavesDs, flatDs, lineL_append, ← line_same d h.1, ← lines_same r h.2]
    simp
end
mutual
theorem text_same : ∀ d : Dc, rightD d = true → (wordsD d).data.toList = textsL (leavesD d)
  | .mk k s n ks, h => by
    obtain ⟨h0, h7, h1, h5, hr⟩ := right_out h
    rw [leavesD, wordsD]
    by_cases hk : k < 5
    · rw [if_pos hk, h5 hk, wordsDs, ByteArray.append_empty]
      by_cases k1 : k = 1
      · rw [if_pos k1]; simp [textsL, Dc.text]
      · rw [if_neg k1, h1 k1]; simp [textsL, Dc.text]
    · rw [if_neg hk, if_neg (show ¬ k = 1 by omega), ByteArray.empty_append]
      exact texts_same ks hr
theorem texts_same : ∀ ks : Dcs, rightDs ks = true → (wordsDs ks).data.toList = textsL (leavesDs ks)
  | .nil, _ => by rw [leavesDs, wordsDs]; rfl
  | .cons d r, h => by
    rw [rightDs, Bool.and_eq_true] at h
    rw [leavesDs, wordsDs, textsL_append, ← text_same d h.1, ← texts_same r h.2]
    simp
end
theorem words_alike {d : Dc} (h : rightD d = true) : (⟨(textsL (leavesD d)).toArray⟩ : ByteArray) = wordsD d := bytes_eq (text_same d h)
theorem flat_alike {d : Dc} (h : rightD d = true) : flatP (leavesD d) = .tuple #[.string (if hardD d then ByteArray.empty else flatD d), .bool (!hardD d)] := by
  rw [flatP, hard_same d h, bytes_eq (line_same d h)]
  rfl
end Go.Proofs.Ytggbocimapdidaa
