/-
  The walk of EditRight: it gives true.
  Its conditions: the numbers fit their kinds.
-/
import Derived.Test.YtfncmabjmlmcfaaDiffs
namespace Go.Proofs.Ytfncmabjmlmcfaa
open Go.RowKit Go.Shelf

def rowEd (g i : Nat) : Ed := ⟨(i * g : Nat), (i * g : Nat) + 1, ByteArray.empty⟩
def rowL (g k : Nat) : List Ed := (List.range k).map (rowEd g)
theorem rowL_len (g k : Nat) : (rowL g k).length = k := by simp [rowL]
theorem rowL_succ (g k : Nat) : rowL g (k + 1) = rowL g k ++ [rowEd g k] := by simp [rowL, List.range_succ]
theorem rowL_fits (g k : Nat) (hg : g ≤ 3) (hk : k ≤ 1100) : ∀ e ∈ rowL g k, e.fits := by
  intro e he
  simp only [rowL, List.mem_map, List.mem_range] at he
  obtain ⟨i, hi, rfl⟩ := he
  have : i * g ≤ 1100 * 3 := Nat.mul_le_mul (by omega) hg
  refine ⟨?_, ?_, ?_, ?_, ?_⟩ <;> simp only [rowEd]
  · omega
  · omega
  · omega
  · omega
  · decide
theorem row_ok (g : Nat) (hg : 1 ≤ g) : ∀ (m i : Nat) (la lb : Int), la < (i * g : Nat) → lb ≤ (i * g : Nat) → (i + m) * g ≤ 5000 → okGo 5000 la lb ((List.range' i m).map (rowEd g)) = true
  | 0, i, la, lb, _, _, _ => by simp [okGo]
  | m + 1, i, la, lb, h1, h2, h3 => by
    have e1 : (i + 1) * g = i * g + g := by rw [Nat.add_mul, Nat.one_mul]
    have e2 : (i + (m + 1)) * g = (i + 1 + m) * g := by congr 1; omega
    have e3 : (i + 1) * g ≤ (i + 1 + m) * g := Nat.mul_le_mul_right g (by omega)
    rw [List.range'_succ, List.map_cons, okGo, row_ok g hg m (i + 1) _ _ (by simp only [rowEd]; rw [e1]; omega) (by simp only [rowEd]; rw [e1]; omega) (by omega)]
    have h4 : (0 : Int) ≤ (i * g : Nat) := Int.natCast_nonneg _
    obtain ⟨A, hA⟩ : ∃ A : Nat, A = i * g := ⟨_, rfl⟩
    rw [← hA] at h1 h2 h4 e1
    simp [okOne, rowEd, ← hA, -Int.natCast_mul]
    omega
theorem row_right (g k : Nat) (hg : 1 ≤ g) (hg3 : g ≤ 3) : (decide ((rowL g k).length ≤ 1000) && okGo 5000 (-1) 0 (rowL g k)) = decide (k ≤ 1000) := by
  rw [rowL_len]
  by_cases hk : k ≤ 1000
  · have : (0 + k) * g ≤ 1000 * 3 := Nat.mul_le_mul (by omega) hg3
    have h := row_ok g hg k 0 (-1) 0 (by omega) (by omega) (by omega)
    rw [rowL, List.range_eq_range', h]
    simp
  · simp [hk]

theorem IsEds.two_ {w : World} {g : Nat} {lo hi lo' hi' : Int} {tx tx' : ByteArray} (h : Blk w g 36 #[.int .i64 lo, .int .i64 hi, .string tx, .int .i64 lo', .int .i64 hi', .string tx']) (hf : (Ed.mk lo hi tx).fits) (hf' : (Ed.mk lo' hi' tx').fits) :
    IsEds w (· < w.heap.size) (some ⟨g, 0, none⟩) 2 [⟨lo, hi, tx⟩, ⟨lo', hi', tx'⟩] := by
  refine ⟨rfl, by decide, by simp [hf, hf'], fun _ => ⟨g, 0, rfl, h.lt, ?_⟩⟩
  intro k e he
  match k, he with
  | 0, he =>
    obtain rfl : _ = e := by simpa using he
    exact ⟨h.cell 0, h.cell 1, h.cell 2⟩
  | 1, he =>
    obtain rfl : _ = e := by simpa using he
    exact ⟨h.cell 3, h.cell 4, h.cell 5⟩

set_option maxHeartbeats 2000000 in
theorem rights_any (n gap : Int) (hn : 0 ≤ n ∧ n ≤ 65535) (hg : 0 ≤ gap ∧ gap ≤ 255) (w : World) :
    Calls Try.prog 5 #[.int .u16 n, .int .u8 gap] w fun e w' => e = .returned (.bool true) ∧ Below w.heap.size w w' := by
  obtain ⟨K, hK⟩ : ∃ K : Nat, n % 1100 = (K : Int) := ⟨(n % 1100).toNat, by omega⟩
  obtain ⟨G, hG⟩ : ∃ G : Nat, 1 + gap % 3 = (G : Int) := ⟨(1 + gap % 3).toNat, by omega⟩
  have hK1 : K < 1100 := by omega
  have hG1 : 1 ≤ G ∧ G ≤ 3 := by omega
  obtain ⟨i0, hi, hz0, hz1, hz2⟩ := info_parts info36
  go_enter Try.func5, Try.ntmps5
  go_wp2_with fail
  rw [hK]
  clear hK
  go_loopw [6, 7] (fun v i wr => ∃ k : Nat, k ≤ K ∧ i = .int .i64 k ∧ wr.ownsRow w.heap.size 36 3 v (rowL G k).length ((rowL G k).flatMap edCells) ∧ Below w.heap.size w wr) (fun _ i _ => 1200 - (intOf i).toNat)
  case atStart => exact ⟨0, by omega, rfl, World.ownsRow_nil _ _ _ _, Below.refl _ _⟩
  case round =>
    obtain ⟨k, hk, rfl, hown, hb⟩ := hrel
    by_cases hlt : k < K
    · have hkG : k * G ≤ 1100 * 3 := Nat.mul_le_mul (by omega) hG1.2
      have hc : ((k * G : Nat) : Int) = (k : Int) * (G : Int) := Int.natCast_mul k G
      have v1 : IntKind.i64.wrap ((k : Int) * (G : Int)) = (k : Int) * (G : Int) := IntWalk.i64_in _ (by omega)
      have v2 : IntKind.i64.wrap ((k : Int) * (G : Int) + 1) = (k : Int) * (G : Int) + 1 := IntWalk.i64_in _ (by omega)
      go_wp2_with (at_builtin; refine wpList_append_own _ rfl (.tmp 26) (.tmp 31) 26 rfl w.heap.size 36 i0 _ 3 32 Try.underlying26 hi hz0 hz1 hz2 rfl (by decide) _ (rowL G k).length _ rfl (hown.alloc _) ⟨wr.heap.size, 0, none⟩ 1 1 [.int .i64 ((k : Int) * G), .int .i64 ((k : Int) * G + 1), .string ⟨#[]⟩] rfl rfl (cell_three_new _ _ _ _ _) ?c2 ?c3 ?c4 ?c5 ?_)
      case c2 => simp [Value.oneCell']
      case c3 => rw [rowL_len]; simp only [maxLen]; omega
      case c4 => rw [rowL_len]; omega
      case c5 => have := hb.size; simp; omega
      intro v' w1 hown' hgrow _
      have hz := hb.size
      have hb1 : Below w.heap.size w w1 := (hb.alloc hz _).grown hgrow (by simp; omega) (fun r hr => (hown.lt r hr).1)
      clear hown hgrow hb v1 v2
      go_wp2_with fail
      go_roundw
      case rel =>
        refine ⟨k + 1, by omega, by go_num, ?_, hb1⟩
        rw [rowL_succ, List.flatMap_append, List.length_append]
        have e : [rowEd G k].flatMap edCells = [.int .i64 ((k : Int) * G), .int .i64 ((k : Int) * G + 1), .string ⟨#[]⟩] := by simp [rowEd, edCells]; rfl
        rw [e]
        exact hown'
      case measure => simp [intOf]; omega
    · obtain rfl : k = K := by omega
      have hE := IsEds.of_own hown rfl (by rw [rowL_len]; simp only [maxLen]; omega) (rowL_fits G k hG1.2 (by omega))
      rw [rowL_len] at hE
      obtain ⟨a, c, rfl, hE⟩ := hE
      have hr := row_right G k hG1.1 hG1.2
      obtain ⟨W0, hW0⟩ : ∃ W0, ((wr.alloc (.cells #[.int .i64 3, .int .i64 3, .string ⟨#[97]⟩, .int .i64 3, .int .i64 3, .string ⟨#[98]⟩] 36)).alloc (.cells #[.int .i64 3, .int .i64 4, .string ⟨#[]⟩, .int .i64 4, .int .i64 4, .string ⟨#[98]⟩] 36)).alloc (.cells #[.int .i64 3, .int .i64 5, .string ⟨#[]⟩, .int .i64 4, .int .i64 6, .string ⟨#[]⟩] 36) = W0 := ⟨_, rfl⟩
      have b1 : Blk W0 wr.heap.size 36 #[.int .i64 3, .int .i64 3, .string ⟨#[97]⟩, .int .i64 3, .int .i64 3, .string ⟨#[98]⟩] := hW0 ▸ ((Blk.new wr 36 _).alloc _).alloc _
      have b2 : Blk W0 (wr.heap.size + 1) 36 #[.int .i64 3, .int .i64 4, .string ⟨#[]⟩, .int .i64 4, .int .i64 4, .string ⟨#[98]⟩] := by
        rw [← hW0]
        have := (Blk.new (wr.alloc (.cells #[.int .i64 3, .int .i64 3, .string ⟨#[97]⟩, .int .i64 3, .int .i64 3, .string ⟨#[98]⟩] 36)) 36 #[.int .i64 3, .int .i64 4, .string ⟨#[]⟩, .int .i64 4, .int .i64 4, .string ⟨#[98]⟩]).alloc (.cells #[.int .i64 3, .int .i64 5, .string ⟨#[]⟩, .int .i64 4, .int .i64 6, .string ⟨#[]⟩] 36)
        rw [World.size_alloc] at this
        exact this
      have b3 : Blk W0 (wr.heap.size + 1 + 1) 36 #[.int .i64 3, .int .i64 5, .string ⟨#[]⟩, .int .i64 4, .int .i64 6, .string ⟨#[]⟩] := by
        rw [← hW0]
        have := Blk.new ((wr.alloc (.cells #[.int .i64 3, .int .i64 3, .string ⟨#[97]⟩, .int .i64 3, .int .i64 3, .string ⟨#[98]⟩] 36)).alloc (.cells #[.int .i64 3, .int .i64 4, .string ⟨#[]⟩, .int .i64 4, .int .i64 4, .string ⟨#[98]⟩] 36)) 36 #[.int .i64 3, .int .i64 5, .string ⟨#[]⟩, .int .i64 4, .int .i64 6, .string ⟨#[]⟩]
        rw [World.size_alloc, World.size_alloc] at this
        exact this
      have hz0' := hb.size
      have hbW : Below wr.heap.size wr W0 := hW0 ▸ (((Below.refl _ wr).alloc (Nat.le_refl _) _).alloc (by simp) _).alloc (by simp; omega) _
      have hB0 : Below w.heap.size w W0 := hb.trans (hbW.mono hz0')
      have l1 := hE.lt_.on hbW
      have l2 := IsEds.two_ b1 (by refine ⟨?_, ?_, ?_, ?_, ?_⟩ <;> decide) (by refine ⟨?_, ?_, ?_, ?_, ?_⟩ <;> decide)
      have l3 := IsEds.two_ b2 (by refine ⟨?_, ?_, ?_, ?_, ?_⟩ <;> decide) (by refine ⟨?_, ?_, ?_, ?_, ?_⟩ <;> decide)
      have l4 := IsEds.two_ b3 (by refine ⟨?_, ?_, ?_, ?_, ?_⟩ <;> decide) (by refine ⟨?_, ?_, ?_, ?_, ?_⟩ <;> decide)
      have HR := hide hr
      clear hown b1 b2 b3 hE hbW hr hb
      go_wp2_with fail
      refine (known_any W0).mono ?_
      rintro e w1 ⟨rfl, hb1⟩
      clear hW0
      have hB1 := hB0.trans (hb1.mono hB0.size)
      replace l1 := l1.on hb1
      replace l2 := l2.on hb1
      replace l3 := l3.on hb1
      replace l4 := l4.on hb1
      go_wp2_with fail
      refine (right_any _ _ _ _ _ w1 l1).mono ?_
      rintro e w2 ⟨rfl, hb2⟩
      rw [HR.out]
      have hB2 := hB1.trans (hb2.mono hB1.size)
      replace l2 := l2.on hb2
      replace l3 := l3.on hb2
      replace l4 := l4.on hb2
      clear l1 hb1 hb2 hB0 hB1
      by_cases h1k : k ≤ 1000
      all_goals
        go_wp2_with fail
        have R2 : Calls Try.prog 18 #[.slice (some ⟨wr.heap.size, 0, none⟩) 2 2, .int .i64 9] w2 (RightPost w2 false) := right_any _ 2 2 _ 9 w2 l2
        refine R2.mono ?_
        rintro e w3 ⟨rfl, hb3⟩
        have hB3 := hB2.trans (hb3.mono hB2.size)
        replace l3 := l3.on hb3
        replace l4 := l4.on hb3
        clear l2 hb3 hB2 R2
        go_wp2_with fail
        have R3 : Calls Try.prog 18 #[.slice (some ⟨wr.heap.size + 1, 0, none⟩) 2 2, .int .i64 9] w3 (RightPost w3 true) := right_any _ 2 2 _ 9 w3 l3
        refine R3.mono ?_
        rintro e w4 ⟨rfl, hb4⟩
        have hB4 := hB3.trans (hb4.mono hB3.size)
        replace l3 := l3.on hb4
        replace l4 := l4.on hb4
        clear hb4 hB3 R3
        go_wp2_with fail
        have R4 : Calls Try.prog 18 #[.slice (some ⟨wr.heap.size + 1 + 1, 0, none⟩) 2 2, .int .i64 9] w4 (RightPost w4 false) := right_any _ 2 2 _ 9 w4 l4
        refine R4.mono ?_
        rintro e w5 ⟨rfl, hb5⟩
        have hB5 := hB4.trans (hb5.mono hB4.size)
        replace l3 := l3.on hb5
        clear hb5 hB4 R4 l4
        go_wp2_with fail
        have R5 : Calls Try.prog 18 #[.slice (some ⟨wr.heap.size + 1, 0, none⟩) 2 2, .int .i64 3] w5 (RightPost w5 false) := right_any _ 2 2 _ 3 w5 l3
        refine R5.mono ?_
        rintro e w6 ⟨rfl, hb6⟩
        have hB6 := hB5.trans (hb6.mono hB5.size)
        clear hb6 hB5 R5 l3
        go_wp2_with fail
        have R6 : Calls Try.prog 18 #[.slice none 0 0, .int .i64 0] w6 (RightPost w6 true) := right_any none 0 0 [] 0 w6 ⟨rfl, Nat.zero_le _, by simp, by simp⟩
        refine R6.mono ?_
        rintro e w7 ⟨rfl, hb7⟩
        have hB7 := hB6.trans (hb7.mono hB6.size)
        go_wp2_with fail
        go_ret
        refine ⟨?_, hB7⟩
        first
          | rfl
          | (show Ending.returned (.bool (!decide ((k : Int) ≤ 1000))) = _
             rw [decide_eq_false (by omega)]
             rfl)
end Go.Proofs.Ytfncmabjmlmcfaa
