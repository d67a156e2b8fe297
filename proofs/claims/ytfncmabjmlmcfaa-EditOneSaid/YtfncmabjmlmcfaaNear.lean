/-
  The plain law of diffL: it makes the second text out of the first one, and no edit that does so is shorter.
  No condition.
-/
import Derived.Test.YtfncmabjmlmcfaaMem
import Derived.Test.YtfncmabjmlmcfaaRefApply
namespace Go.Proofs.Ytfncmabjmlmcfaa

theorem pre_same : ∀ A B : List UInt8, A.take (pre A B) = B.take (pre A B)
  | [], _ => by simp [pre]
  | x :: a, [] => by simp [pre]
  | x :: a, y :: b => by
    simp only [pre]
    split
    · rename_i h; subst h; simp [pre_same a b]
    · simp
theorem pre_app : ∀ (P A B : List UInt8), P.length ≤ pre (P ++ A) (P ++ B)
  | [], A, B => by simp
  | x :: P, A, B => by simp [pre]; exact pre_app P A B

theorem suf_same {A B : List UInt8} {s : Nat} (hs : s = pre A.reverse B.reverse) : A.drop (A.length - s) = B.drop (B.length - s) := by
  have h := pre_same A.reverse B.reverse
  rw [← hs] at h
  have h2 := congrArg List.reverse h
  simpa [List.reverse_take] using h2
theorem suf_app {A B T X Y : List UInt8} (hA : A = X ++ T) (hB : B = Y ++ T) : T.length ≤ pre A.reverse B.reverse := by
  subst hA hB
  have := pre_app T.reverse X.reverse Y.reverse
  simpa using this

/-- The lengths at front and back. -/
def near (A B : List UInt8) : Nat × Nat := (pre A B, pre (A.drop (pre A B)).reverse (B.drop (pre A B)).reverse)

theorem near_le (A B : List UInt8) : (near A B).1 + (near A B).2 ≤ A.length ∧ (near A B).1 + (near A B).2 ≤ B.length := by
  have h1 := pre_le_left A B
  have h2 := pre_le_right A B
  have h3 := pre_le_left (A.drop (pre A B)).reverse (B.drop (pre A B)).reverse
  have h4 := pre_le_right (A.drop (pre A B)).reverse (B.drop (pre A B)).reverse
  simp at h3 h4
  simp only [near]
  omega

theorem near_makes (A B : List UInt8) : A.take (near A B).1 ++ (B.drop (near A B).1).take (B.length - (near A B).2 - (near A B).1) ++ A.drop (A.length - (near A B).2) = B := by
  have hle := near_le A B
  obtain ⟨p, hp⟩ : ∃ p, p = (near A B).1 := ⟨_, rfl⟩
  obtain ⟨s, hs⟩ : ∃ s, s = (near A B).2 := ⟨_, rfl⟩
  have hp' : p = pre A B := hp
  have h1 : A.take p = B.take p := by rw [hp']; exact pre_same A B
  have h2 : (A.drop p).drop ((A.drop p).length - s) = (B.drop p).drop ((B.drop p).length - s) := suf_same (by rw [hs, hp']; rfl)
  rw [← hp, ← hs] at hle ⊢
  rw [List.drop_drop, List.drop_drop] at h2
  simp only [List.length_drop] at h2
  rw [show p + (A.length - p - s) = A.length - s by omega, show p + (B.length - p - s) = B.length - s by omega] at h2
  rw [h1, h2]
  conv => rhs; rw [← List.take_append_drop (B.length - s) B]
  congr 1
  conv => rhs; rw [← List.take_append_drop p (B.take (B.length - s))]
  rw [List.take_take, List.drop_take]
  congr 2
  omega

theorem near_best {A B P M N S : List UInt8} (hA : A = P ++ M ++ S) (hB : B = P ++ N ++ S) : P.length + S.length ≤ (near A B).1 + (near A B).2 := by
  have hle := near_le A B
  have hp : P.length ≤ (near A B).1 := by
    simp only [near]
    rw [hA, hB, List.append_assoc, List.append_assoc]
    exact pre_app P _ _
  obtain ⟨p, hp'⟩ : ∃ p, p = (near A B).1 := ⟨_, rfl⟩
  have hs : (near A B).2 = pre (A.drop p).reverse (B.drop p).reverse := by rw [hp']; rfl
  rw [← hp'] at hp hle ⊢
  have lA : A.length = P.length + M.length + S.length := by rw [hA]; simp; omega
  have lB : B.length = P.length + N.length + S.length := by rw [hB]; simp; omega
  obtain ⟨k, hk⟩ : ∃ k, k = min S.length (min A.length B.length - p) := ⟨_, rfl⟩
  have hkS : k ≤ S.length := by omega
  have hT : (S.drop (S.length - k)).length = k := by simp; omega
  have eA : A = (P ++ M ++ S.take (S.length - k)) ++ S.drop (S.length - k) := by rw [hA]; simp
  have eB : B = (P ++ N ++ S.take (S.length - k)) ++ S.drop (S.length - k) := by rw [hB]; simp
  have dA : A.drop p = (P ++ M ++ S.take (S.length - k)).drop p ++ S.drop (S.length - k) := by
    conv => lhs; rw [eA]
    exact List.drop_append_of_le_length (by simp; omega)
  have dB : B.drop p = (P ++ N ++ S.take (S.length - k)).drop p ++ S.drop (S.length - k) := by
    conv => lhs; rw [eB]
    exact List.drop_append_of_le_length (by simp; omega)
  have := suf_app dA dB
  rw [hT, ← hs] at this
  omega
end Go.Proofs.Ytfncmabjmlmcfaa
