/-
  The walk of BareTold: it gives true. Its condition: the slice reads as bytes, the number is a byte.
-/
import Derived.Test.YtacgmmpdichlmaaM04
import Derived.Test.YtacgmmpdichlmaaM18
import Derived.Test.YtacgmmpdichlmaaM03
import Derived.Test.YtacgmmpdichlmaaM12
namespace Go.Proofs.Ytacgmmpdichlmaa
open Go.RowKit
attribute [local go_sem ↓] Go.wp_at_zero Go.wp_at_succ

theorem without_br {d x : Nd} {p : List Int} (h : atN p d = some x) : (withoutN p d).isSome = x.br := by
  rw [withoutN, h, Option.bind_some]
  cases hb : x.br with
  | false => rfl
  | true =>
    obtain ⟨m, hm⟩ := with_some (openN x) p d x h
    rw [if_pos rfl, hm]; rfl
theorem AtP.form {F : World → Nat → Prop} {w w' : World} {o : Option Nd} {e : Ending} (h : AtP F w o e w') : ∃ (k : Int) (s : ByteArray) (y : Option Addr) (m c : Nat), e = .returned (.tuple #[.agg #[.int .i64 k, .string s, .slice y m c], .bool o.isSome]) ∧ (∀ d, o = some d → IsNd w' (F w') d (.agg #[.int .i64 k, .string s, .slice y m c])) ∧ Below w.heap.size w w' := by
  obtain ⟨h1, h2⟩ := h
  cases o with
  | none => exact ⟨_, _, _, _, _, h1, (fun d h => by cases h), h2⟩
  | some d =>
    obtain ⟨k, s, y, m, c, rfl, hn⟩ := h1
    exact ⟨k, s, y, m, c, rfl, (fun d' h => by cases h; exact hn), h2⟩
theorem paths_head (d : Nd) : 0 < (pathsN d).length := by rw [pathsN_len]; exact count_pos d
/-- One path, laid in a slice. -/
theorem lit_path {w : World} {F : Nat → Prop} {u : Value} {p : List Int} (h : IsPath w F u p) (hF : ∀ b, F b → b < w.heap.size) : IsPaths (w.alloc (.cells #[u] 31)) (fun b => F b ∨ b = w.heap.size) (.slice (some ⟨w.heap.size, 0, none⟩) 1 1) [p] :=
  ⟨some ⟨w.heap.size, 0, none⟩, 1, rfl, by simp [maxLen], fun _ => ⟨w.heap.size, 0, rfl, Or.inr rfl, fun k q hq => by
    cases k with
    | zero =>
      obtain rfl : p = q := by simpa using hq
      exact ⟨u, (Blk.new w 31 #[u]).cell 0, h.keep fun b hb => ⟨Or.inl hb, Below.heap_alloc w _ b (hF b hb)⟩⟩
    | succ k => simp at hq⟩⟩
theorem any_take {B : List (List Int)} {q : Nat} (h : q < B.length) (p : List Int) : (B.take (q + 1)).any (fun x => decide (x = p)) = ((B.take q).any (fun x => decide (x = p)) || decide (B[q] = p)) := by
  rw [List.take_succ_eq_append_getElem h, List.any_append]
  simp
theorem any_mem {B : List (List Int)} (p : List Int) : B.any (fun x => decide (x = p)) = decide (p ∈ B) := by
  rw [Bool.eq_iff_iff]
  simp
set_option maxRecDepth 100000 in
set_option maxHeartbeats 8000000 in
theorem told_any (a : Option Addr) (m cap : Nat) (c : List Int) (k : Int) (w : World) (hI : IsBytes w (· < w.heap.size) a m c) (hk0 : 0 ≤ k) (hk1 : k ≤ 255) : Calls Try.prog 4 #[.slice a m cap, .int .u8 k] w (Says true w) := by
  have HT := hide (tree_any a m cap c w hI)
  clear hI
  go_enter Try.func4, Try.ntmps4
  go_wp2_with fail
  refine HT.out.mono ?_
  rintro e w1 ⟨d, hcnt, kd, sd, yd, md, cd, rfl, hn1, hb1⟩
  have HN1 := hide hn1
  have HB1 := hide hb1
  clear hn1 hb1 HT
  have hcnt9 : d.count ≤ 900000 := by omega
  go_wp2_with fail
  refine named fun W1 hW1 => ?_
  have HS1 := hide (show St w W1 [ne w1.heap.size kd sd yd md cd] from St.onto hW1 (((St.nil w).call HB1.out).var 25 _ (by simp)))
  have HD1 := hide (show Is W1 d (.agg #[.int .i64 kd, .string sd, .slice yd md cd]) from hW1 ▸ IsNd.keep (fun b hb => ⟨by simp; have := hb.2; omega, Below.heap_alloc w1 _ b hb.2⟩) _ _ HN1.out)
  clear hW1 HN1 HB1
  refine (paths_any d _ W1 HD1.out hcnt9).mono ?_
  rintro e w2 ⟨la, lc, rfl, hp2, hb2⟩
  have HS2 := hide (HS1.out.call hb2)
  have HD2 := hide (HD1.out.below hb2)
  have hpos := paths_head d
  have hplen := pathsN_len d
  obtain ⟨L, hL⟩ : ∃ L, pathsN d = L := ⟨_, rfl⟩
  have HL := hide hL
  rw [hL] at hp2 hpos hplen ⊢
  obtain ⟨q, hq, hqn⟩ : ∃ q : Nat, k % (L.length : Int) = (q : Int) ∧ q < L.length := by
    have h1 := Int.emod_nonneg k (b := (L.length : Int)) (by omega)
    have h2 := Int.emod_lt_of_pos k (b := (L.length : Int)) (by omega)
    exact ⟨(k % (L.length : Int)).toNat, by omega, by omega⟩
  obtain ⟨lb, lo, u, rfl, hlb, gl, hup⟩ := hp2.get hqn
  obtain ⟨X, hX⟩ : ∃ X, L[q] = X := ⟨_, rfl⟩
  have hmem : X ∈ pathsN d := by rw [HL.out, ← hX]; exact List.getElem_mem hqn
  rw [hX] at hup
  obtain ⟨pa, pc, rfl, hxl, -⟩ := id hup
  have hat := (mem_paths d X).1 hmem
  obtain ⟨x, hx⟩ := Option.isSome_iff_exists.1 hat
  have HAT := hide hx
  have HP2 := hide (show IsPath w2 (· < w2.heap.size) (.slice pa X.length pc) X from hup.keep fun b hb => ⟨hb.2, rfl⟩)
  have p0 := (HS2.out.get 0 rfl).see3
  have ew1 : IntKind.i64.wrap k = k := IntWalk.i64_in _ (by omega)
  have ew2 : IntKind.i64.wrap (q : Int) = q := IntWalk.i64_in _ (by omega)
  have eq1 : (q : Int) < (L.length : Int) := by omega
  have eL0 : ¬ (L.length : Int) = 0 := by omega
  have HX := hide hX
  clear hp2 hb2 hL hX hup hat hx hmem HS1 HD1 hplen
  go_wp2_with fail
  refine (refAt_any (w := w2) HD2.out HP2.out).mono ?_
  rintro e w3 ⟨hm3, hb3⟩
  rw [HAT.out] at hm3
  obtain ⟨kx, sx, yx, mx, cx, rfl, hn3⟩ := hm3
  have HS3 := hide (HS2.out.call hb3)
  have HD3 := hide (HD2.out.below hb3)
  have HP3 := hide (HP2.out.below hb3)
  have lv3 := (HS3.out.get 0 rfl).lt
  obtain ⟨hmx, hmxl, -, hkx, -⟩ := hn3.out
  have hbr := br_of (d := x)
  rw [hkx, ← hmx] at hbr
  have HBR := hide hbr
  clear hn3 hb3 hbr hkx p0 HS2 HD2 HP2 gl ew1 ew2 hq
  obtain ⟨W4, hW4⟩ : ∃ W4, w3.alloc (.cells #[.int .i64 kx, .string sx, .slice yx mx cx] 25) = W4 := ⟨_, rfl⟩
  have HS4 := hide (show St w W4 [ne w1.heap.size kd sd yd md cd, ne w3.heap.size kx sx yx mx cx] from St.onto hW4.symm (HS3.out.var 25 _ (by simp)))
  have hb4 : Below w3.heap.size w3 W4 := hW4 ▸ (Below.refl _ w3).alloc (Nat.le_refl _) _
  have HD4 := hide (HD3.out.below hb4)
  have HP4 := hide (HP3.out.below hb4)
  have p0 := (HS4.out.get 0 rfl).see3
  have p1 := (HS4.out.get 1 rfl).see3
  have HW := hide (without_any (w := W4) HD4.out hcnt9 HP4.out)
  have HWB := hide (without_br HAT.out)
  have hmxl2 : mx ≤ 9223372036854775807 := by rw [← hmx] at hmxl; simp only [maxLen] at hmxl; omega
  clear HS3 HD3 HP3 hb4 hmx hmxl
  obtain ⟨bb, hbb⟩ : ∃ bb, x.br = bb := ⟨_, rfl⟩
  have HBB := hide hbb
  have hcase : ((kx == 12) = false ∧ bb = false) ∨ ((kx == 12) = true ∧ ((mx : Int) == 1) = false ∧ bb = false) ∨ ((kx == 12) = true ∧ ((mx : Int) == 1) = true ∧ bb = true) := by
    have h := HBR.out
    rw [hbb] at h
    by_cases h1 : kx = 12
    · by_cases h2 : mx = 1
      · subst h2
        exact Or.inr (Or.inr ⟨by simpa using h1, rfl, by rw [h]; simp [h1]⟩)
      · exact Or.inr (Or.inl ⟨by simpa using h1, by simp; omega, by rw [h]; simp [h2]⟩)
    · exact Or.inl ⟨by simpa using h1, by rw [h]; simp [h1]⟩
  clear hbb HBR
  rcases hcase with ⟨e1, rfl⟩ | ⟨e1, e2, rfl⟩ | ⟨e1, e2, rfl⟩
  all_goals
    go_wp2_with fail
    refine HW.out.mono ?_
    intro e w5 hat5
    obtain ⟨k5, s5, y5, m5, c5, rfl, -, hb5⟩ := hat5.form
    rw [HWB.out, HBB.out]
    have HS5 := hide (HS4.out.call hb5)
    have HD5 := hide (HD4.out.below hb5)
    have HP5 := hide (HP4.out.below hb5)
    have lv5_0 := (HS5.out.get 0 rfl).lt
    have lv5_1 := (HS5.out.get 1 rfl).lt
    clear hat5 hb5 HW HWB HS4 HD4 HP4 p0 p1 hW4 e1
    obtain ⟨W6, hW6⟩ : ∃ W6, w5.alloc (.cells #[.int .i64 k5, .string s5, .slice y5 m5 c5] 25) = W6 := ⟨_, rfl⟩
    have HS6 := hide (show St w W6 [ne w1.heap.size kd sd yd md cd, ne w3.heap.size kx sx yx mx cx, ne w5.heap.size k5 s5 y5 m5 c5] from St.onto hW6.symm (HS5.out.var 25 _ (by simp)))
    have hb6 : Below w5.heap.size w5 W6 := hW6 ▸ (Below.refl _ w5).alloc (Nat.le_refl _) _
    have HD6 := hide (HD5.out.below hb6)
    have HP6 := hide (HP5.out.below hb6)
    have p0 := (HS6.out.get 0 rfl).see3
    have HK := hide (brackets_any (w := W6) HD6.out hcnt9)
    clear HS5 HD5 HP5 hb6
    go_wp2_with fail
    refine HK.out.mono ?_
    rintro e w7 ⟨ba, bc, rfl, hp7, hb7⟩
    have HS7 := hide (HS6.out.call hb7)
    have HP7 := hide (HP6.out.below hb7)
    have hbl := bracksN_len d
    obtain ⟨B, hB⟩ : ∃ B, bracksN d = B := ⟨_, rfl⟩
    have HBr := hide hB
    rw [hB] at hp7 hbl ⊢
    have HPS := hide (show IsPaths w7 (· < w7.heap.size) (.slice ba B.length bc) B from hp7.keep fun b hb => ⟨hb.2, rfl⟩)
    clear HK HS6 HD6 HP6 p0 hW6 hp7 hb7 hB
    go_wp2_with fail
    go_loopw [13, 15] (fun f i wr => ∃ q : Nat, q ≤ B.length ∧ i = .int .i64 q ∧ f = .bool ((B.take q).any (fun x => decide (x = X))) ∧ Below w.heap.size w wr ∧ Below w7.heap.size w7 wr) (fun _ i _ => B.length - (intOf i).toNat)
    case atStart => exact ⟨0, Nat.zero_le _, rfl, rfl, HS7.out.below, Below.refl _ _⟩
    case round =>
      obtain ⟨q, hq, rfl, rfl, hbw, hb7⟩ := hrel
      have hzw := hbw.size
      have hz7 := hb7.size
      by_cases hlt : q < B.length
      · have hlti : (q : Int) < (B.length : Int) := by omega
        have hany := any_take hlt X
        obtain ⟨fd, hfd⟩ : ∃ fd, (B.take q).any (fun x => decide (x = X)) = fd := ⟨_, rfl⟩
        rw [hfd] at hany ⊢
        have HANY := hide hany
        clear hany
        cases fd with
        | true =>
          clear hfd
          go_wp2_with fail
          exact ⟨⟨q + 1, by omega, by go_num, by rw [HANY.out]; rfl, hbw, hb7⟩, by simp [intOf]; omega⟩
        | false =>
          clear hfd
          obtain ⟨rb, ro, ru, rfl, hrb, gr, hru⟩ := HPS.out.get hlt
          obtain ⟨Y, hY⟩ : ∃ Y, B[q] = Y := ⟨_, rfl⟩
          rw [hY] at hru HANY
          obtain ⟨ya, yc, rfl, -, -⟩ := id hru
          have gr' := (hb7.cell (p := ⟨rb, ro + q, none⟩) hrb).trans gr
          obtain ⟨Wb, hWb⟩ : ∃ Wb, wr.alloc (.cells #[.slice ya Y.length yc] 31) = Wb := ⟨_, rfl⟩
          obtain ⟨Wc, hWc⟩ : ∃ Wc, Wb.alloc (.cells #[.slice pa X.length pc] 31) = Wc := ⟨_, rfl⟩
          have hbb' : Below wr.heap.size wr Wb := hWb ▸ (Below.refl _ wr).alloc (Nat.le_refl _) _
          have hbc' : Below Wb.heap.size Wb Wc := hWc ▸ (Below.refl _ Wb).alloc (Nat.le_refl _) _
          have hzb : Wb.heap.size = wr.heap.size + 1 := by rw [← hWb]; simp
          have h1 : IsPaths Wb (· < Wb.heap.size) (.slice (some ⟨wr.heap.size, 0, none⟩) 1 1) [Y] := hWb ▸ (lit_path (w := wr) (F := (· < wr.heap.size)) (hru.keep fun b hb => ⟨Nat.lt_of_lt_of_le hb hz7, hb7.block b hb⟩) (fun _ h => h)).keep fun b hb => ⟨by simp; omega, rfl⟩
          have h2 : IsPaths Wc (· < Wc.heap.size) (.slice (some ⟨Wb.heap.size, 0, none⟩) 1 1) [X] := hWc ▸ (lit_path (w := Wb) (F := (· < Wb.heap.size)) (HP7.out.keep fun b hb => ⟨by omega, ((hbb'.block b (by omega)).trans (hb7.block b hb))⟩) (fun _ h => h)).keep fun b hb => ⟨by simp; omega, rfl⟩
          have h1' : IsPaths Wc (· < Wc.heap.size) (.slice (some ⟨wr.heap.size, 0, none⟩) 1 1) [Y] := h1.keep fun b hb => ⟨Nat.lt_of_lt_of_le hb hbc'.size, hbc'.block b hb⟩
          have HEQ := hide (eqPaths_any h1' h2)
          have HB' := hide (show Below w.heap.size w Wc from hbw.trans ((hbb'.trans (hbc'.mono hbb'.size)).mono hzw))
          have HB7 := hide (show Below w7.heap.size w7 Wc from hb7.trans ((hbb'.trans (hbc'.mono hbb'.size)).mono hz7))
          clear gr hru h1 h2 h1' hY hbb' hbc' hzb
          go_wp2_with fail
          refine HEQ.out.mono ?_
          rintro e w8 ⟨rfl, hb8⟩
          rw [show decide ([Y] = [X]) = decide (Y = X) by simp]
          go_wp2_with fail
          exact ⟨⟨q + 1, by omega, by go_num, by rw [HANY.out]; rfl, HB'.out.trans (hb8.mono HB'.out.size), HB7.out.trans (hb8.mono HB7.out.size)⟩, by simp [intOf]; omega⟩
      · have hlti : ¬ (q : Int) < (B.length : Int) := by omega
        have hfd : (B.take q).any (fun x => decide (x = X)) = x.br := by
          rw [List.take_of_length_le (by omega), any_mem, ← HBr.out]
          have := mem_bracks d X
          rw [HAT.out] at this
          rw [Bool.eq_iff_iff, decide_eq_true_iff, this]
          rfl
        rw [HBB.out] at hfd
        rw [hfd]
        clear hfd
        go_wp2_with fail
        refine (known_any wr).mono ?_
        rintro e w9 ⟨rfl, hb9⟩
        go_wp2_with fail
        go_ret
        exact ⟨rfl, hbw.trans (hb9.mono hzw)⟩
end Go.Proofs.Ytacgmmpdichlmaa
