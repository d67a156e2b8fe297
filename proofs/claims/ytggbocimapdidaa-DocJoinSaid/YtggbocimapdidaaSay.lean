/-
  Say, of the program and of the reference: a text as a document.
  Its condition: the text is no longer than a string may be.
-/
import Derived.Test.YtggbocimapdidaaMake
namespace Go.Proofs.Ytggbocimapdidaa
open Go.RowKit Go.WideShapes

theorem say_any (F : Nat → Prop) (s : ByteArray) (w : World) (hs : s.size ≤ maxLen) : Calls Try.prog 15 #[.string s] w (DcPost w F (sayD s)) := by
  by_cases h0 : s = ByteArray.empty
  · subst h0
    go_enter Try.func15, Try.ntmps15
    go_wp2_with fail
    have hB := (Below.refl _ w).alloc (Nat.le_refl _) (.cells #[.int .i64 0, .string ⟨#[]⟩, .int .i64 0, .slice none 0 0] 25)
    refine made (g := w.heap.size) rfl rfl (Blk.new w 25 _) rfl ?_ hB
    rw [sayD, if_pos rfl]
    exact IsDc.leaf (by omega) (by omega) (by decide)
  · have hd : sayD s = .mk 1 s 0 .nil := by rw [sayD, if_neg h0]
    have e1 : s.toList.isEmpty = false := by
      rw [ByteArray.toList_eq, List.isEmpty_eq_false_iff]
      intro e
      exact h0 (bytes_inj e)
    have HD := hide hd
    clear hd h0
    go_enter Try.func15, Try.ntmps15
    go_wp2_with fail
    have hB := (Below.refl _ w).alloc (Nat.le_refl _) (.cells #[.int .i64 1, .string s, .int .i64 0, .slice none 0 0] 25)
    refine made (g := w.heap.size) rfl rfl (Blk.new w 25 _) rfl ?_ hB
    rw [HD.out]
    exact IsDc.leaf (by omega) (by omega) hs

theorem refSay_any (F : Nat → Prop) (s : ByteArray) (w : World) (hs : s.size ≤ maxLen) : Calls Try.prog 21 #[.string s] w (DcPost w F (sayD s)) := by
  by_cases h0 : s = ByteArray.empty
  · subst h0
    go_enter Try.func21, Try.ntmps21
    go_wp2_with fail
    have hB := (Below.refl _ w).alloc (Nat.le_refl _) (.cells #[.int .i64 0, .string ⟨#[]⟩, .int .i64 0, .slice none 0 0] 25)
    refine made (g := w.heap.size) rfl rfl (Blk.new w 25 _) rfl ?_ hB
    rw [sayD, if_pos rfl]
    exact IsDc.leaf (by omega) (by omega) (by decide)
  · have hd : sayD s = .mk 1 s 0 .nil := by rw [sayD, if_neg h0]
    have e1 : s.toList.isEmpty = false := by
      rw [ByteArray.toList_eq, List.isEmpty_eq_false_iff]
      intro e
      exact h0 (bytes_inj e)
    have HD := hide hd
    clear hd h0
    go_enter Try.func21, Try.ntmps21
    go_wp2_with fail
    have hB := (Below.refl _ w).alloc (Nat.le_refl _) (.cells #[.int .i64 1, .string s, .int .i64 0, .slice none 0 0] 25)
    refine made (g := w.heap.size) rfl rfl (Blk.new w 25 _) rfl ?_ hB
    rw [HD.out]
    exact IsDc.leaf (by omega) (by omega) hs
end Go.Proofs.Ytggbocimapdidaa
