/-
  The walk of known: the chapter's examples hold.
  No condition.
-/
import Derived.Test.YtfncmabjmlmcfaaApply
import Derived.Test.YtfncmabjmlmcfaaDiff
namespace Go.Proofs.Ytfncmabjmlmcfaa
open Go.RowKit Go.Shelf

theorem IsEds.one_ {w : World} {g : Nat} {lo hi : Int} {tx : ByteArray} (h : Blk w g 36 #[.int .i64 lo, .int .i64 hi, .string tx]) (hf : (Ed.mk lo hi tx).fits) : IsEds w (· < w.heap.size) (some ⟨g, 0, none⟩) 1 [⟨lo, hi, tx⟩] := by
  refine ⟨rfl, by decide, by simpa using hf, fun _ => ⟨g, 0, rfl, h.lt, ?_⟩⟩
  intro k e he
  match k, he with
  | 0, he =>
    obtain rfl : _ = e := by simpa using he
    exact ⟨h.cell 0, h.cell 1, h.cell 2⟩

def abc : ByteArray := ⟨#[97, 98, 99]⟩
def k1 : List Ed := [⟨1, 2, ⟨#[120, 121]⟩⟩]
def k2 : List Ed := [⟨2, 1, ⟨#[]⟩⟩]
theorem known_a : applyB abc k1 = ⟨#[97, 120, 121, 99]⟩ := by rfl
theorem known_b : rightB k1 abc.size = true := by rfl
theorem known_c : rightB k2 abc.size = false := by rfl

set_option maxHeartbeats 1000000 in
theorem known_any (w : World) : Calls Try.prog 11 #[] w fun e w' => e = .returned (.bool true) ∧ Below w.heap.size w w' := by
  go_enter Try.func11, Try.ntmps11
  go_wp2_with fail
  have i1 := IsEds.one_ (Blk.new w 36 #[.int .i64 1, .int .i64 2, .string ⟨#[120, 121]⟩]) ⟨by decide, by decide, by decide⟩
  refine (apply_yes abc _ 1 1 k1 _ i1 known_b (by decide) (by decide)).mono ?_
  rintro e w1 ⟨rfl, hb1⟩
  have hB1 : Below w.heap.size w w1 := ((Below.refl _ w).alloc (Nat.le_refl _) _).trans (hb1.mono (by simp))
  rw [known_a]
  clear hb1 i1
  go_wp2_with fail
  have i2 := IsEds.one_ (Blk.new w1 36 #[.int .i64 2, .int .i64 1, .string ⟨#[]⟩]) ⟨by decide, by decide, by decide⟩
  refine (apply_no abc _ 1 1 k2 _ i2 known_c (by decide)).mono ?_
  rintro e w2 ⟨rfl, hb2⟩
  have hs1 := hB1.size
  have hB2 : Below w.heap.size w w2 := (hB1.alloc (by omega) _).trans (hb2.mono (by simp; omega))
  clear hb2 i2
  go_wp2_with fail
  refine (diff_any ⟨#[97]⟩ ⟨#[97]⟩ w2 (by decide) (by decide)).mono ?_
  rintro e w3 ⟨a, n, c, rfl, hI, hb3⟩
  have hn := hI.1
  have h0 : diffL ⟨#[97]⟩ ⟨#[97]⟩ = [] := by unfold diffL; rw [if_pos (by simp)]
  rw [h0] at hn
  obtain rfl : n = 0 := hn
  have hB3 := hB2.trans (hb3.mono (by have := hB2.size; omega))
  clear hI
  go_wp2_with fail
  go_ret
  exact ⟨rfl, hB3⟩
end Go.Proofs.Ytfncmabjmlmcfaa
