/-
  The law's generator of programs as a whole: some text; a tree of it, or an error. Its condition: the choices read as bytes.
-/
import Derived.Test.YtacgmmpdichlmaaN05
import Derived.Test.YtacgmmpdichlmaaN06
import Derived.Test.YtacgmmpdichlmaaN33
namespace Go.Proofs.Ytacgmmpdichlmaa
open Go.RowKit
attribute [local go_sem ↓] Go.wp_at_zero Go.wp_at_succ

section
variable {B g : Nat} {a : Option Addr} {m cap : Nat} {c : List Int} {W X : World} {n : Int} {N : Nat}
theorem Kg.step (K : Kg B g a m cap c W n N) (hn : n + 1 ≤ 1000) (hN : 10 * N ≤ 1000000000) : Kg B g a m cap c W (n + 1) (10 * N) :=
  ⟨Nat.le_trans K.lo (by omega), hN, hn, fun d h0 h1 h => gpipe (hide K) h d h0 (by omega), fun d h0 h1 h => gpost (hide K) h d h0 (by omega)⟩
theorem kg_start : Kg B g a m cap c W (-2) 40 := ⟨by omega, by omega, by omega, fun d h0 h1 => by omega, fun d h0 h1 => by omega⟩
theorem kg_five : Kg B g a m cap c W 5 400000000 :=
  ((((((kg_start.step (by omega) (by omega)).step (by omega) (by omega)).step (by omega) (by omega)).step (by omega) (by omega)).step (by omega) (by omega)).step (by omega) (by omega)).step (by omega) (by omega)
/-- Some text; nothing old turns. -/
def TextP (w : World) (e : Ending) (w' : World) : Prop := (∃ s : ByteArray, e = .returned (.string s)) ∧ Below w.heap.size w w'
end
set_option maxRecDepth 100000 in
set_option maxHeartbeats 4000000 in
theorem lawSource_any (a : Option Addr) (m cap : Nat) (c : List Int) (w : World) (hI : IsBytes w (· < w.heap.size) a m c) : Calls Try.prog 14 #[.slice a m cap] w (TextP w) := by
  have hs : GS w.heap.size w.heap.size a m cap c (w.alloc (.cells #[.slice a m cap, .int .i64 0] 63)) := ⟨Nat.le_refl _, ⟨0, Nat.zero_le _, Blk.new w _ _⟩, hI.keep fun b hb => ⟨hb, Below.heap_alloc w _ b hb⟩⟩
  have K := hide (kg_five (B := w.heap.size) (g := w.heap.size) (a := a) (m := m) (cap := cap) (c := c) (W := w.alloc (.cells #[.slice a m cap, .int .i64 0] 63)))
  have HB := hide ((Below.refl w.heap.size w).alloc (Nat.le_refl _) (.cells #[.slice a m cap, .int .i64 0] 63))
  have HG := hide hs.refl
  clear hI hs
  go_enter Try.func14, Try.ntmps14
  go_wp2_with fail
  refine (gnext HG.out 12).mono ?_
  rintro e X1 ⟨⟨r, rfl, hr0, hr1⟩, hX1⟩
  by_cases h0 : r = 0
  · subst h0
    go_wp2_with fail
    refine (K.out.pipe 5 (by omega) (by omega) hX1).mono ?_
    rintro e X2 ⟨⟨s2, rfl, h2⟩, hX2⟩
    go_wp2_with fail
    go_ret
    exact ⟨⟨_, rfl⟩, HB.out.trans hX2.gb.below⟩
  · by_cases h1 : r = 1
    · subst h1
      go_wp2_with fail
      refine (K.out.pipe 5 (by omega) (by omega) hX1).mono ?_
      rintro e X2 ⟨⟨s2, rfl, h2⟩, hX2⟩
      go_wp2_with fail
      go_ret
      exact ⟨⟨_, rfl⟩, HB.out.trans hX2.gb.below⟩
    · by_cases h2 : r = 2
      · subst h2
        go_wp2_with fail
        refine (K.out.pipe 3 (by omega) (by omega) hX1).mono ?_
        rintro e X2 ⟨⟨s2, rfl, h2⟩, hX2⟩
        go_wp2_with fail
        refine (K.out.pipe 3 (by omega) (by omega) hX2).mono ?_
        rintro e X3 ⟨⟨s3, rfl, h3⟩, hX3⟩
        go_wp2_with fail
        go_ret
        exact ⟨⟨_, rfl⟩, HB.out.trans hX3.gb.below⟩
      · go_wp2_with fail
        refine (K.out.pipe 5 (by omega) (by omega) hX1).mono ?_
        rintro e X2 ⟨⟨s2, rfl, h2⟩, hX2⟩
        go_wp2_with fail
        go_ret
        exact ⟨⟨_, rfl⟩, HB.out.trans hX2.gb.below⟩
theorem IsBytes.take {w : World} {F : Nat → Prop} {a : Option Addr} {n : Nat} {c : List Int} (h : IsBytes w F a n c) (k : Nat) (hk : k ≤ n) : IsBytes w F a k (c.take k) := by
  obtain ⟨h1, h2, h3, h4⟩ := h
  refine ⟨by rw [List.length_take]; omega, by omega, fun x hx => h3 x (List.mem_of_mem_take hx), fun hne => ?_⟩
  have hc : c ≠ [] := by intro e; subst e; simp at hne
  obtain ⟨b, o, ha, hb, hx⟩ := h4 hc
  exact ⟨b, o, ha, hb, fun q x hq => hx q x (by rw [List.getElem?_take] at hq; split at hq; exact hq; cases hq)⟩
/-- Some bytes; nothing old turns. -/
def BytesP (w : World) (e : Ending) (w' : World) : Prop := (∃ (a' : Option Addr) (m' cap' : Nat) (c' : List Int), e = .returned (.slice a' m' cap') ∧ IsBytes w' (· < w'.heap.size) a' m' c') ∧ Below w.heap.size w w'
set_option maxRecDepth 100000 in
set_option maxHeartbeats 4000000 in
theorem short_any (a : Option Addr) (m cap : Nat) (c : List Int) (w : World) (hI : IsBytes w (· < w.heap.size) a m c) (hcap : m ≤ cap) : Calls Try.prog 15 #[.slice a m cap] w (BytesP w) := by
  have hml := hI.2.1
  simp only [maxLen] at hml
  have HI := hide hI
  clear hI
  by_cases h60 : m ≤ 60
  · have h60i : (m : Int) ≤ 60 := by omega
    go_enter Try.func15, Try.ntmps15
    go_wp2_with fail
    go_ret
    exact ⟨⟨a, m, cap, c, rfl, HI.out⟩, Below.refl _ _⟩
  · have h60i : ¬ (m : Int) ≤ 60 := by omega
    go_enter Try.func15, Try.ntmps15
    go_wp2_with fail
    go_ret
    exact ⟨⟨a, 60, cap, c.take 60, rfl, HI.out.take 60 (by omega)⟩, Below.refl _ _⟩
theorem IsBytes.below {w w' : World} {a : Option Addr} {n : Nat} {c : List Int} (h : IsBytes w (· < w.heap.size) a n c) (hb : Below w.heap.size w w') : IsBytes w' (· < w'.heap.size) a n c := h.keep fun b hl => ⟨Nat.lt_of_lt_of_le hl hb.size, hb.block b hl⟩
/-- A node of its own, and whether there is one. -/
def ParsedP (w : World) (e : Ending) (w' : World) : Prop := (∃ (d : Nd) (k : Int) (s : ByteArray) (y : Option Addr) (m c : Nat) (ok : Bool), e = .returned (.tuple #[.agg #[.int .i64 k, .string s, .slice y m c], .bool ok]) ∧
    IsNd w' (New w.heap.size w') d (.agg #[.int .i64 k, .string s, .slice y m c]) ∧ d.count ≤ 600000) ∧ Below w.heap.size w w'
set_option maxRecDepth 100000 in
set_option maxHeartbeats 4000000 in
theorem parsed_any (a : Option Addr) (m cap : Nat) (c : List Int) (w : World) (hI : IsBytes w (· < w.heap.size) a m c) (hcap : m ≤ cap) : Calls Try.prog 5 #[.slice a m cap] w (ParsedP w) := by
  have HI := hide hI
  clear hI
  go_enter Try.func5, Try.ntmps5
  go_wp2_with fail
  refine named fun W1 hW1 => ?_
  have HS1 := onS hW1 (St.nil w).va
  clear hW1
  refine (short_any a m cap c W1 (HI.out.below HS1.out.below) hcap).mono ?_
  rintro e w2 ⟨⟨a2, m2, cap2, c2, rfl, hI2⟩, hb2⟩
  have HS2 := hide (HS1.out.call hb2)
  have HI2 := hide hI2
  clear hb2 hI2 HS1
  go_wp2_with fail
  refine (lawSource_any a2 m2 cap2 c2 w2 HI2.out).mono ?_
  rintro e w3 ⟨⟨s3, rfl⟩, hb3⟩
  have HS3 := hide (HS2.out.call hb3)
  clear hb3 HS2
  go_wp2_with fail
  refine (source_any s3 w3).mono ?_
  rintro e w6 ⟨⟨d6, k6, s6, y6, m6, c6, e6, p6, rfl, hn6, hc6⟩, hb6⟩
  have HS6 := hide (HS3.out.call hb6)
  have HNn6 := hide (show Nx w w6 [w.heap.size] _ _ from Nx.made hn6 HS3.out)
  clear hn6 hb6 HS3
  have p0 := rD HS6
  go_wp2_with fail
  refine namedPost fun W7 hW7 => ?_
  have HS7 := onS hW7 (HS6.out.st3 0 rfl _ _ _).va
  have HNn7 := hide (Nx.onto hW7 ((HNn6.out.st3 (by simp) _ _ _).var (g := w6.heap.size) (by simp) _))
  clear hW7 HNn6 HS6
  exact ended_nb rfl rfl rfl (HS7.out.get 0 rfl) ⟨⟨_, _, _, _, _, _, _, rfl, HNn7.out.out, hc6⟩, HS7.out.below⟩
end Go.Proofs.Ytacgmmpdichlmaa
