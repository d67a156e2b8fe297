/-
  The plain law of diffL on texts.
  No condition.
-/
import Derived.Test.YtfncmabjmlmcfaaNear
import Derived.WideShapes
namespace Go.Proofs.Ytfncmabjmlmcfaa
open Go.WideShapes

theorem ext_data (a : ByteArray) (i j : Nat) : (a.extract i j).data.toList = (a.data.toList.drop i).take (j - i) := by
  simp [ByteArray.data_extract, Array.toList_extract]
theorem app_data (a b : ByteArray) : (a ++ b).data.toList = a.data.toList ++ b.data.toList := by simp
theorem size_data (a : ByteArray) : a.data.toList.length = a.size := by simp

theorem toList_ne {a b : ByteArray} (h : a ≠ b) : (a.toList == b.toList) = false := by
  rw [ByteArray.toList_eq, ByteArray.toList_eq]
  exact beq_eq_false_iff_ne.2 fun e => h (bytes_inj e)

theorem diffL_self (a : ByteArray) : diffL a a = [] := by simp [diffL]

theorem diff_law {a b : ByteArray} (h : a ≠ b) : ∃ (p q : Nat) (x : ByteArray), diffL a b = [⟨(p : Int), (q : Int), x⟩] ∧ p ≤ q ∧ q ≤ a.size ∧ (a.extract 0 p ++ x) ++ a.extract q a.size = b ∧
    ∀ (f t : Nat) (y : ByteArray), f ≤ t → t ≤ a.size → (a.extract 0 f ++ y) ++ a.extract t a.size = b → q - p ≤ t - f := by
  have hp : preB a b 0 = (near a.data.toList b.data.toList).1 := by simp [preB, near]
  have hs : sufB (a.extract (preB a b 0) a.size) (b.extract (preB a b 0) b.size) 0 = (near a.data.toList b.data.toList).2 := by
    rw [hp]
    simp only [sufB, near, List.drop_zero, ext_data]
    rw [List.take_of_length_le (by simp), List.take_of_length_le (by simp)]
  have hle := near_le a.data.toList b.data.toList
  have hm := near_makes a.data.toList b.data.toList
  rw [size_data, size_data] at hle
  rw [diff_other (toList_ne h), hs, hp]
  obtain ⟨p, hp'⟩ : ∃ p, p = (near a.data.toList b.data.toList).1 := ⟨_, rfl⟩
  obtain ⟨s, hs'⟩ : ∃ s, s = (near a.data.toList b.data.toList).2 := ⟨_, rfl⟩
  have hbest := @near_best a.data.toList b.data.toList
  rw [← hp', ← hs'] at hle hm ⊢
  refine ⟨p, a.size - s, _, by rw [show ((a.size - s : Nat) : Int) = (a.size : Int) - (s : Int) by omega], by omega, by omega, ?_, ?_⟩
  · refine bytes_inj ?_
    rw [app_data, app_data, ext_data, ext_data, ext_data]
    rw [List.drop_zero, Nat.sub_zero, List.take_of_length_le (l := a.data.toList.drop (a.size - s)) (by simp)]
    rw [size_data, size_data] at hm
    exact hm
  · intro f t y hft hta hy
    have h1 : a.data.toList = a.data.toList.take f ++ (a.data.toList.drop f).take (t - f) ++ a.data.toList.drop t := by
      rw [List.append_assoc]
      conv => lhs; rw [← List.take_append_drop f a.data.toList]
      congr 1
      conv => lhs; rw [← List.take_append_drop (t - f) (a.data.toList.drop f)]
      rw [List.drop_drop, show f + (t - f) = t by omega]
    have h2 : b.data.toList = a.data.toList.take f ++ y.data.toList ++ a.data.toList.drop t := by
      rw [← hy, app_data, app_data, ext_data, ext_data, List.drop_zero, Nat.sub_zero, List.take_of_length_le (l := a.data.toList.drop t) (by simp)]
    have := @hbest _ _ _ _ h1 h2
    rw [← hp', ← hs'] at this
    simp at this
    omega
end Go.Proofs.Ytfncmabjmlmcfaa
