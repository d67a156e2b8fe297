/-
  The walk of DocRight: it gives true.
  Its conditions: the slice reads as bytes; the number is a byte.
-/
import Derived.Test.YtggbocimapdidaaGen
import Derived.Test.YtggbocimapdidaaRight
import Derived.Deep.RegionHeld3
import Derived.Deep.CutRange
import Derived.Deep.CutBlock
namespace Go.Proofs.Ytggbocimapdidaa
open Go.RowKit

theorem right_n {d : Dc} {v : Value} {w : World} (h : Is w d v) : Calls Try.prog 18 #[v] w (Says (rightD d) w) := right_any d v w h
theorem right_fit (d : Dc) : rightD (fitD d) = rightD d := by
  rw [fitD, rightD, rightDs, rightDs, isEmpty_true]
  simp [topB, Dcs.len]
theorem right_in3 (d : Dc) : rightD (inD 3 d) = rightD d := by
  rw [inD, rightD, rightDs, rightDs, isEmpty_true]
  simp [topB, Dcs.len]
theorem right_row3 {d : Dc} (hk : d.kind = 7) (h : rightD d = true) : rightD (rowD [d, d, .mk 1 ⟨#[97]⟩ 0 .nil]) = true := by
  have hf : [d, d, .mk 1 ⟨#[97]⟩ 0 .nil].filter Dc.full = [d, d, .mk 1 ⟨#[97]⟩ 0 .nil] := by
    have hd : d.full = true := by rw [Dc.full, hk]; rfl
    have ha : (Dc.mk 1 ⟨#[97]⟩ 0 .nil).full = true := rfl
    simp [hd, ha]
  have ha : (⟨#[97]⟩ : ByteArray).toList.isEmpty = false := isEmpty_false (by decide)
  rw [rowD, hf, rowOf, rightD, Dcs.ofL, Dcs.ofL, Dcs.ofL, Dcs.ofL, rightDs, rightDs, rightDs, rightDs, rightD, rightDs, h, isEmpty_true, ha]
  · simp [topB, Dcs.len]
  · simp
  · intro d0 e; simp at e
theorem right_pair (d x : Dc) : rightD (.mk 7 ByteArray.empty 0 (Dcs.ofL [d, x])) = (rightD d && rightD x) := by
  rw [rightD, Dcs.ofL, Dcs.ofL, Dcs.ofL, rightDs, rightDs, rightDs, isEmpty_true]
  simp [topB]
theorem wrong_0 : rightD (.mk 2 ⟨#[97]⟩ 0 .nil) = false := by
  rw [rightD, isEmpty_false (s := ⟨#[97]⟩) (by decide)]
  simp [topB]
theorem wrong_1 (d : Dc) : rightD (.mk 6 ByteArray.empty 0 (Dcs.ofL [d, d])) = false := by
  rw [rightD, isEmpty_true]
  simp [topB, Dcs.ofL, Dcs.len]
theorem wrong_2 (d : Dc) : rightD (.mk 5 ByteArray.empty 1001 (Dcs.ofL [d])) = false := by
  rw [rightD, isEmpty_true]
  simp [topB]
theorem wrong_3 : rightD (.mk 8 ByteArray.empty 0 .nil) = false := by
  rw [rightD, isEmpty_true]
  simp [topB]
theorem wrong_4 : rightD (.mk 1 ByteArray.empty 0 .nil) = false := by
  rw [rightD, isEmpty_true]
  simp [topB]

theorem _root_.Go.Proofs.Ytggbocimapdidaa.IsDc.put {w : World} {d : Dc} {v : Value} {g : Nat} {x y z u : Value} (h : IsDc w (fun b => b ≠ g ∧ b < w.heap.size) d v) : Is (put4 w g x y z u) d v :=
  IsDc.keep (fun b hb => ⟨by rw [size_put4]; exact hb.2, heap_put4 w hb.1 _ _ _ _⟩) _ _ h

/-- What the region reads. -/
def S8 (g5 g6 : Nat) (k1 : Int) (s1 : ByteArray) (n1 : Int) (a1 : Option Addr) (m1 c1 : Nat) (kx : Int) (sx : ByteArray) (nx : Int) (ax : Option Addr) (mx cx : Nat) (w : World) : Prop :=
  w.cell? ⟨g5, 0, none⟩ = some (.int .i64 k1) ∧ w.cell? ⟨g5, 1, none⟩ = some (.string s1) ∧ w.cell? ⟨g5, 2, none⟩ = some (.int .i64 n1) ∧ w.cell? ⟨g5, 3, none⟩ = some (.slice a1 m1 c1) ∧
    w.cell? ⟨g6, 0, none⟩ = some (.int .i64 kx) ∧ w.cell? ⟨g6, 1, none⟩ = some (.string sx) ∧ w.cell? ⟨g6, 2, none⟩ = some (.int .i64 nx) ∧ w.cell? ⟨g6, 3, none⟩ = some (.slice ax mx cx)
/-- What lies behind the switch: a document that may not be laid out. -/
def BadOne (w : World) (g5 g6 : Nat) (d : Dc) (c5 : Array Value) (vd : Value) (w0 : World) : Prop :=
  ∃ x k s n a m c, rightD x = false ∧ totD x ≤ 2000 ∧ Is w0 x (.agg #[.int .i64 k, .string s, .int .i64 n, .slice a m c]) ∧ Blk w0 g6 25 #[.int .i64 k, .string s, .int .i64 n, .slice a m c] ∧ Is w0 d vd ∧ Blk w0 g5 25 c5 ∧ Below w.heap.size w w0

theorem isl_at {w : World} {F F' : Nat → Prop} {xs : List Value} {ds : List Dc} (h : IsRow w F xs ds) (hl : ds.length ≤ maxLen) (hF : ∀ b, F b → F' b ∧ b < w.heap.size) (hn : F' w.heap.size) : IsSl (w.alloc (.cells xs.toArray 25)) F' ds (.slice (some ⟨w.heap.size, 0, none⟩) ds.length ds.length) := by
  refine ⟨some ⟨w.heap.size, 0, none⟩, ds.length, rfl, hl, fun _ => ⟨w.heap.size, 0, rfl, hn, IsRow.dcs (fun j u hu => ?_) (h.keep (fun b hb => ⟨(hF b hb).1, Below.heap_alloc w _ b (hF b hb).2⟩))⟩⟩
  have := (Blk.new w 25 xs.toArray).cell j
  rw [Nat.zero_add, this]
  simpa using hu
theorem bad_put {w wz : World} {g5 g6 : Nat} {d x : Dc} {c5 : Array Value} {vd : Value} {o0 o1 o2 o3 : Value} {k n : Int} {s : ByteArray} {a : Option Addr} {m c : Nat} (hne : g5 ≠ g6) (hb6 : Blk wz g6 25 #[o0, o1, o2, o3]) (hb5 : Blk wz g5 25 c5) (hd : IsDc wz (fun b => b ≠ g6 ∧ b < wz.heap.size) d vd) (hB : Below w.heap.size w wz) (hg : w.heap.size ≤ g6)
    (hx : IsDc wz (fun b => b ≠ g6 ∧ b < wz.heap.size) x (.agg #[.int .i64 k, .string s, .int .i64 n, .slice a m c])) (hr : rightD x = false) (ht : totD x ≤ 2000) : BadOne w g5 g6 d c5 vd (put4 wz g6 (.int .i64 k) (.string s) (.int .i64 n) (.slice a m c)) :=
  ⟨x, k, s, n, a, m, c, hr, ht, hx.put, hb6.put4_ _ _ _ _, hd.put, (heap_put4 wz hne _ _ _ _).trans hb5, below_put4 hB hg _ _ _ _⟩

set_option maxHeartbeats 8000000 in
theorem rightw_any (a : Option Addr) (m cap : Nat) (c : List Int) (n : Int) (hn : 0 ≤ n ∧ n ≤ 255) (w : World) (hI : IsBytes w (· < w.heap.size) a m c) : Calls Try.prog 6 #[.slice a m cap, .int .u8 n] w (Says true w) := by
  have HG := hide (gen_any a m cap c w hI)
  clear hI
  go_enter Try.func6, Try.ntmps6
  go_wp2_with fail
  refine (unhide HG).mono ?_
  rintro e w1 ⟨d, hk7, ht, k1, s1, n1, a1, m1, c1, rfl, h1, hb1⟩
  obtain ⟨W2, hW2⟩ : ∃ W2, w1.alloc (.cells #[.int .i64 k1, .string s1, .int .i64 n1, .slice a1 m1 c1] 25) = W2 := ⟨_, rfl⟩
  have h2 : Is W2 d (.agg #[.int .i64 k1, .string s1, .int .i64 n1, .slice a1 m1 c1]) := hW2 ▸ h1.alloc _
  have hbk : Blk W2 w1.heap.size 25 #[.int .i64 k1, .string s1, .int .i64 n1, .slice a1 m1 c1] := hW2 ▸ Blk.new w1 25 _
  have hB2 : Below w.heap.size w W2 := hW2 ▸ hb1.alloc hb1.size _
  have hg5 : w1.heap.size < W2.heap.size := hbk.lt
  obtain ⟨p0, p1, p2, p3⟩ := hbk.four
  have H2 := hide h2
  have HB := hide hbk
  clear h1 h2 hbk hb1 HG
  go_wp2_with fail
  refine (right_n H2.out).mono ?_
  rintro e w3 ⟨rfl, hb3⟩
  clear p0 p1 p2 p3 hW2
  have hB3 := hB2.trans (hb3.mono hB2.size)
  cases hr : rightD d with
  | false =>
    go_wp2_with fail
    refine (known_any w3).mono ?_
    rintro e w4 ⟨rfl, hb4⟩
    go_wp2_with fail
    go_ret
    exact ⟨rfl, hB3.trans (hb4.mono hB3.size)⟩
  | true =>
    have HR := hide hr
    have HK := hide hk7
    clear hr hk7
    obtain ⟨W4, hW4⟩ : ∃ W4, w3.alloc (.cells #[.int .i64 1, .string ⟨#[]⟩, .int .i64 0, .slice none 0 0] 25) = W4 := ⟨_, rfl⟩
    have hB4 : Below w.heap.size w W4 := hW4 ▸ hB3.alloc hB3.size _
    have hb34 : Below w3.heap.size w3 W4 := hW4 ▸ (Below.refl _ w3).alloc (Nat.le_refl _) _
    have b6 : Blk W4 w3.heap.size 25 #[.int .i64 1, .string ⟨#[]⟩, .int .i64 0, .slice none 0 0] := hW4 ▸ Blk.new w3 25 _
    have b5 : Blk W4 w1.heap.size 25 #[.int .i64 k1, .string s1, .int .i64 n1, .slice a1 m1 c1] := (HB.out.below hb3 HB.out.lt).below hb34 (Nat.lt_of_lt_of_le hg5 hb3.size)
    have hg56 : w1.heap.size < w3.heap.size := Nat.lt_of_lt_of_le hg5 hb3.size
    have hd4 : IsDc W4 (fun b => b ≠ w3.heap.size ∧ b < W4.heap.size) d (.agg #[.int .i64 k1, .string s1, .int .i64 n1, .slice a1 m1 c1]) := IsDc.keep (fun b hb => ⟨⟨by omega, Nat.lt_of_lt_of_le hb hb34.size⟩, hb34.block b hb⟩) _ _ (H2.out.below hb3)
    obtain ⟨p0, p1, p2, p3⟩ := b5.four
    obtain ⟨q0, q1, q2, q3⟩ := b6.four
    have qf := b6.frozen
    have HB5 := hide b5
    have HB6 := hide b6
    have HD4 := hide hd4
    have HW4 := hide hW4
    clear b5 b6 hd4 hW4 p0 p1 p2 p3 q0 q1 q2 q3 qf
    go_upto_block 0 with fail
    rw [HW4.out]
    obtain ⟨p0, p1, p2, p3⟩ := HB5.out.four
    obtain ⟨q0, q1, q2, q3⟩ := HB6.out.four
    have qf := HB6.out.frozen
    go_cut [14] from 15 to 32 (fun _ wx => BadOne w w1.heap.size w3.heap.size d #[.int .i64 k1, .string s1, .int .i64 n1, .slice a1 m1 c1] (.agg #[.int .i64 k1, .string s1, .int .i64 n1, .slice a1 m1 c1]) wx)
    case first =>
      obtain ⟨t, htt, ht0, ht4⟩ : ∃ t : Int, n % 5 = t ∧ 0 ≤ t ∧ t ≤ 4 := ⟨_, rfl, by omega, by omega⟩
      have htc : t = 0 ∨ t = 1 ∨ t = 2 ∨ t = 3 ∨ t = 4 := by omega
      have hne : w1.heap.size ≠ w3.heap.size := by omega
      have hw3 := hB3.size
      clear ht0 ht4
      rcases htc with rfl | rfl | rfl | rfl | rfl
      · go_wp2_with fail
        go_meet
        exact bad_put (x := .mk 2 ⟨#[97]⟩ 0 .nil) hne HB6.out HB5.out HD4.out hB4 hw3 (IsDc.leaf (by omega) (by omega) (by decide)) wrong_0 (by decide)
      · obtain ⟨wz, hwz⟩ : ∃ wz, W4.alloc (.cells #[.int .i64 k1, .string s1, .int .i64 n1, .slice a1 m1 c1, .int .i64 k1, .string s1, .int .i64 n1, .slice a1 m1 c1] 25) = wz := ⟨_, rfl⟩
        have hzz : wz.heap.size = W4.heap.size + 1 := by rw [← hwz]; simp
        have hsl : IsSl wz (fun b => b ≠ w3.heap.size ∧ b < wz.heap.size) [d, d] _ := hwz ▸ isl_at (F' := fun b => b ≠ w3.heap.size ∧ b < wz.heap.size) (IsRow.two HD4.out HD4.out) (by simp [maxLen]) (fun b hb => ⟨⟨hb.1, by omega⟩, hb.2⟩) ⟨by have := HB6.out.lt; omega, by omega⟩
        have hx : IsDc wz (fun b => b ≠ w3.heap.size ∧ b < wz.heap.size) (.mk 6 ByteArray.empty 0 (Dcs.ofL [d, d])) _ := IsDc.join (by omega) (by omega) (by decide) hsl
        have hz6 : Blk wz w3.heap.size 25 _ := hwz ▸ HB6.out.alloc _
        have hz5 : Blk wz w1.heap.size 25 _ := hwz ▸ HB5.out.alloc _
        have hzB : Below w.heap.size w wz := hwz ▸ hB4.alloc hB4.size _
        have hzd : IsDc wz (fun b => b ≠ w3.heap.size ∧ b < wz.heap.size) d _ := IsDc.keep (fun b hb => ⟨⟨hb.1, by omega⟩, by rw [← hwz]; exact Below.heap_alloc W4 _ b hb.2⟩) _ _ HD4.out
        obtain ⟨z0, z1, z2, z3⟩ := hz6.four
        have zf := hz6.frozen
        have HX := hide hx
        have HZ6 := hide hz6
        have HZ5 := hide hz5
        have HZD := hide hzd
        clear hsl hx hz6 hz5 hzd hzz
        go_wp2_with fail
        go_meet
        exact bad_put hne HZ6.out HZ5.out HZD.out hzB hw3 HX.out (wrong_1 d) (by rw [totD, totDs_L, Dcs.toL_ofL]; simp [totL]; omega)
      · obtain ⟨wz, hwz⟩ : ∃ wz, W4.alloc (.cells #[.int .i64 k1, .string s1, .int .i64 n1, .slice a1 m1 c1] 25) = wz := ⟨_, rfl⟩
        have hzz : wz.heap.size = W4.heap.size + 1 := by rw [← hwz]; simp
        have hsl : IsSl wz (fun b => b ≠ w3.heap.size ∧ b < wz.heap.size) [d] _ := hwz ▸ isl_at (F' := fun b => b ≠ w3.heap.size ∧ b < wz.heap.size) (IsRow.one HD4.out) (by simp [maxLen]) (fun b hb => ⟨⟨hb.1, by omega⟩, hb.2⟩) ⟨by have := HB6.out.lt; omega, by omega⟩
        have hx : IsDc wz (fun b => b ≠ w3.heap.size ∧ b < wz.heap.size) (.mk 5 ByteArray.empty 1001 (Dcs.ofL [d])) _ := IsDc.join (by omega) (by omega) (by decide) hsl
        have hz6 : Blk wz w3.heap.size 25 _ := hwz ▸ HB6.out.alloc _
        have hz5 : Blk wz w1.heap.size 25 _ := hwz ▸ HB5.out.alloc _
        have hzB : Below w.heap.size w wz := hwz ▸ hB4.alloc hB4.size _
        have hzd : IsDc wz (fun b => b ≠ w3.heap.size ∧ b < wz.heap.size) d _ := IsDc.keep (fun b hb => ⟨⟨hb.1, by omega⟩, by rw [← hwz]; exact Below.heap_alloc W4 _ b hb.2⟩) _ _ HD4.out
        obtain ⟨z0, z1, z2, z3⟩ := hz6.four
        have zf := hz6.frozen
        have HX := hide hx
        have HZ6 := hide hz6
        have HZ5 := hide hz5
        have HZD := hide hzd
        clear hsl hx hz6 hz5 hzd hzz
        go_wp2_with fail
        go_meet
        exact bad_put hne HZ6.out HZ5.out HZD.out hzB hw3 HX.out (wrong_2 d) (by rw [totD, totDs_L, Dcs.toL_ofL]; simp [totL]; omega)
      · go_wp2_with fail
        go_meet
        exact bad_put (x := .mk 8 ByteArray.empty 0 .nil) hne HB6.out HB5.out HD4.out hB4 hw3 (IsDc.leaf (by omega) (by omega) (by decide)) wrong_3 (by decide)
      · go_wp2_with fail
        go_meet
        exact ⟨.mk 1 ByteArray.empty 0 .nil, 1, ⟨#[]⟩, 0, none, 0, 0, wrong_4, by decide, is_leaf 1 (by omega), HB6.out, IsDc.keep (fun b hb => ⟨hb.2, rfl⟩) _ _ HD4.out, HB5.out, hB4⟩
    case rest =>
      obtain ⟨x, kx, sx, nx, ax, mx, cx, hxr, hxt, hx, hb6, hd, hb5, hBc⟩ : BadOne w w1.heap.size w3.heap.size d #[.int .i64 k1, .string s1, .int .i64 n1, .slice a1 m1 c1] (.agg #[.int .i64 k1, .string s1, .int .i64 n1, .slice a1 m1 c1]) wc := hcut
      clear p0 p1 p2 p3 q0 q1 q2 q3 qf HB5 HB6 HD4 HW4 hb34
      obtain ⟨w5, hw5⟩ : ∃ w5, wc.drew = w5 := ⟨_, rfl⟩
      have hbd : Below wc.heap.size wc w5 := hw5 ▸ (Below.refl _ wc).drew
      have hB5 : Below w.heap.size w w5 := hBc.trans (hbd.mono hBc.size)
      have D5 := hide (hd.below hbd)
      have X5 := hide (hx.below hbd)
      have B5 := hide (hb5.below hbd hb5.lt)
      have B6 := hide (hb6.below hbd hb6.lt)
      have HXR := hide hxr
      obtain ⟨p0, p1, p2, p3⟩ := hb5.four
      obtain ⟨q0, q1, q2, q3⟩ := hb6.four
      have hS : ∀ wn, Below w5.heap.size w5 wn → S8 w1.heap.size w3.heap.size k1 s1 n1 a1 m1 c1 kx sx nx ax mx cx wn := fun wn h => by
        obtain ⟨e0, e1, e2, e3⟩ := (B5.out.below h B5.out.lt).four
        obtain ⟨f0, f1, f2, f3⟩ := (B6.out.below h B6.out.lt).four
        exact ⟨e0, e1, e2, e3, f0, f1, f2, f3⟩
      have HS := hide hS
      clear hS hd hx hb5 hb6 hxr hbd
      go_wp2_with fail
      refine wp_region_held_drew (S := fun w' => w'.cell? ⟨w1.heap.size, 0, none⟩ = some (.int .i64 k1) ∧ w'.cell? ⟨w1.heap.size, 1, none⟩ = some (.string s1) ∧ w'.cell? ⟨w1.heap.size, 2, none⟩ = some (.int .i64 n1) ∧ w'.cell? ⟨w1.heap.size, 3, none⟩ = some (.slice a1 m1 c1) ∧ w'.cell? ⟨w3.heap.size, 0, none⟩ = some (.int .i64 kx) ∧ w'.cell? ⟨w3.heap.size, 1, none⟩ = some (.string sx) ∧ w'.cell? ⟨w3.heap.size, 2, none⟩ = some (.int .i64 nx) ∧ w'.cell? ⟨w3.heap.size, 3, none⟩ = some (.slice ax mx cx)) (by kernel_rfl) ?_ (fun hHeld => ?_)
      · exact ⟨p0, p1, p2, p3, q0, q1, q2, q3⟩
      rw [hw5] at hHeld ⊢
      refine wpAnyH_ready (rs := [0]) (by kernel_rfl) (by simp) ?_
      refine AllReadyH.cons rfl (fun K hK => ?_) AllReadyH.nil
      go_simp
      refine (known_any w5).mono ?_
      rintro e y1 ⟨rfl, hy1⟩
      have hz1 : Below w5.heap.size w5 y1 := (Below.refl w5.heap.size w5).trans (hy1.mono (Below.refl w5.heap.size w5).size)
      go_simp
      refine hK.out _ _ ?_ (fun hHeld => ?_)
      · exact HS.out _ hz1
      clear hK K
      refine wpAnyH_take (i := 1) (v := ?_) rfl (by kernel_rfl) (by kernel_rfl) (by kernel_rfl) (fun _ _ _ h => h) (Or.inl ⟨by rfl, ?_⟩) (by assumption) ?_
      rotate_left
      · intro w hSw; (try dsimp only at hSw); (try go_split_ands); go_simp
        all_goals with_reducible rfl
      try simp only [Act.put, List.getElem_toArray, List.getElem_cons_zero, List.getElem_cons_succ, List.setIfInBounds_toArray, List.set_cons_zero, List.set_cons_succ]
      refine wpAnyH_take (i := 2) (v := ?_) rfl (by kernel_rfl) (by kernel_rfl) (by kernel_rfl) (fun _ _ _ h => h) (Or.inl ⟨by rfl, ?_⟩) (by assumption) ?_
      rotate_left
      · intro w hSw; (try dsimp only at hSw); (try go_split_ands); go_simp
        all_goals with_reducible rfl
      try simp only [Act.put, List.getElem_toArray, List.getElem_cons_zero, List.getElem_cons_succ, List.setIfInBounds_toArray, List.set_cons_zero, List.set_cons_succ]
      refine wpAnyH_ready (rs := [3]) (by kernel_rfl) (by simp) ?_
      refine AllReadyH.cons rfl (fun K hK => ?_) AllReadyH.nil
      go_simp
      refine (fit_n (D5.out.below hz1)).mono ?_
      rintro e y2 ⟨kFa, sFa, nFa, aFa, mFa, cFa, rfl, hFa, hy2⟩
      have hz2 : Below w5.heap.size w5 y2 := hz1.trans (hy2.mono hz1.size)
      have Fa := hide hFa
      clear hFa
      go_simp
      refine hK.out _ _ ?_ (fun hHeld => ?_)
      · exact HS.out _ hz2
      clear hK K
      refine wpAnyH_ready (rs := [4]) (by kernel_rfl) (by simp) ?_
      refine AllReadyH.cons rfl (fun K hK => ?_) AllReadyH.nil
      go_simp
      refine (right_n Fa.out).mono ?_
      rintro e y3 ⟨rfl, hy3⟩
      rw [right_fit, HR.out]
      have hz3 : Below w5.heap.size w5 y3 := hz2.trans (hy3.mono hz2.size)
      go_simp
      refine hK.out _ _ ?_ (fun hHeld => ?_)
      · exact HS.out _ hz3
      clear hK K
      refine wpAnyH_take (i := 5) (v := ?_) rfl (by kernel_rfl) (by kernel_rfl) (by kernel_rfl) (fun _ _ _ h => h) (Or.inl ⟨by rfl, ?_⟩) (by assumption) ?_
      rotate_left
      · intro w hSw; (try dsimp only at hSw); (try go_split_ands); go_simp
        all_goals with_reducible rfl
      try simp only [Act.put, List.getElem_toArray, List.getElem_cons_zero, List.getElem_cons_succ, List.setIfInBounds_toArray, List.set_cons_zero, List.set_cons_succ]
      refine wpAnyH_take (i := 6) (v := ?_) rfl (by kernel_rfl) (by kernel_rfl) (by kernel_rfl) (fun _ _ _ h => h) (Or.inl ⟨by rfl, ?_⟩) (by assumption) ?_
      rotate_left
      · intro w hSw; (try dsimp only at hSw); (try go_split_ands); go_simp
        all_goals with_reducible rfl
      try simp only [Act.put, List.getElem_toArray, List.getElem_cons_zero, List.getElem_cons_succ, List.setIfInBounds_toArray, List.set_cons_zero, List.set_cons_succ]
      refine wpAnyH_take (i := 7) (v := ?_) rfl (by kernel_rfl) (by kernel_rfl) (by kernel_rfl) (fun _ _ _ h => h) (Or.inl ⟨by rfl, ?_⟩) (by assumption) ?_
      rotate_left
      · intro w hSw; (try dsimp only at hSw); (try go_split_ands); go_simp
        all_goals with_reducible rfl
      try simp only [Act.put, List.getElem_toArray, List.getElem_cons_zero, List.getElem_cons_succ, List.setIfInBounds_toArray, List.set_cons_zero, List.set_cons_succ]
      refine wpAnyH_ready (rs := [8]) (by kernel_rfl) (by simp) ?_
      refine AllReadyH.cons rfl (fun K hK => ?_) AllReadyH.nil
      go_simp
      refine (in_n 3 (by omega) (D5.out.below hz3)).mono ?_
      rintro e y4 ⟨kIa, sIa, nIa, aIa, mIa, cIa, rfl, hIa, hy4⟩
      have hz4 : Below w5.heap.size w5 y4 := hz3.trans (hy4.mono hz3.size)
      have Ia := hide hIa
      clear hIa
      go_simp
      refine hK.out _ _ ?_ (fun hHeld => ?_)
      · exact HS.out _ hz4
      clear hK K
      refine wpAnyH_ready (rs := [9]) (by kernel_rfl) (by simp) ?_
      refine AllReadyH.cons rfl (fun K hK => ?_) AllReadyH.nil
      go_simp
      refine (right_n Ia.out).mono ?_
      rintro e y5 ⟨rfl, hy5⟩
      rw [right_in3, HR.out]
      have hz5 : Below w5.heap.size w5 y5 := hz4.trans (hy5.mono hz4.size)
      go_simp
      refine hK.out _ _ ?_ (fun hHeld => ?_)
      · exact HS.out _ hz5
      clear hK K
      refine wpAnyH_take (i := 10) (v := ?_) rfl (by kernel_rfl) (by kernel_rfl) (by kernel_rfl) (fun _ _ _ h => h) (Or.inl ⟨by rfl, ?_⟩) (by assumption) ?_
      rotate_left
      · intro w hSw; (try dsimp only at hSw); (try go_split_ands); go_simp
        all_goals with_reducible rfl
      try simp only [Act.put, List.getElem_toArray, List.getElem_cons_zero, List.getElem_cons_succ, List.setIfInBounds_toArray, List.set_cons_zero, List.set_cons_succ]
      refine wpAnyH_take (i := 11) (v := ?_) rfl (by kernel_rfl) (by kernel_rfl) (by kernel_rfl) (fun _ _ _ h => h) (Or.inl ⟨by rfl, ?_⟩) (by assumption) ?_
      rotate_left
      · intro w hSw; (try dsimp only at hSw); (try go_split_ands); go_simp
        all_goals with_reducible rfl
      try simp only [Act.put, List.getElem_toArray, List.getElem_cons_zero, List.getElem_cons_succ, List.setIfInBounds_toArray, List.set_cons_zero, List.set_cons_succ]
      refine wpAnyH_take (i := 12) (v := ?_) rfl (by kernel_rfl) (by kernel_rfl) (by kernel_rfl) (fun _ _ _ h => h) (Or.inl ⟨by rfl, ?_⟩) (by assumption) ?_
      rotate_left
      · intro w hSw; (try dsimp only at hSw); (try go_split_ands); go_simp
        all_goals with_reducible rfl
      try simp only [Act.put, List.getElem_toArray, List.getElem_cons_zero, List.getElem_cons_succ, List.setIfInBounds_toArray, List.set_cons_zero, List.set_cons_succ]
      refine wpAnyH_take (i := 13) (v := ?_) rfl (by kernel_rfl) (by kernel_rfl) (by kernel_rfl) (fun _ _ _ h => h) (Or.inl ⟨by rfl, ?_⟩) (by assumption) ?_
      rotate_left
      · intro w hSw; (try dsimp only at hSw); (try go_split_ands); go_simp
        all_goals with_reducible rfl
      try simp only [Act.put, List.getElem_toArray, List.getElem_cons_zero, List.getElem_cons_succ, List.setIfInBounds_toArray, List.set_cons_zero, List.set_cons_succ]
      refine wpAnyH_ready (rs := [14]) (by kernel_rfl) (by simp) ?_
      refine AllReadyH.cons rfl (fun K hK => ?_) AllReadyH.nil
      go_simp
      refine (say_n ⟨#[97]⟩ y5 (by decide)).mono ?_
      rintro e y6 ⟨kSa, sSa, nSa, aSa, mSa, cSa, rfl, hSa, hy6⟩
      have hz6 : Below w5.heap.size w5 y6 := hz5.trans (hy6.mono hz5.size)
      have Sa := hide hSa
      clear hSa
      go_simp
      refine hK.out _ _ ?_ (fun hHeld => ?_)
      · exact HS.out _ hz6
      clear hK K
      have hsa := Sa.out
      rw [say_a] at hsa
      have HSL := hide (isl_lit (IsRow.three (D5.out.below hz6) (D5.out.below hz6) hsa) (by simp [maxLen]))
      clear hsa
      have hzA : Below w5.heap.size w5 (y6.alloc (.cells #[.int .i64 k1, .string s1, .int .i64 n1, .slice a1 m1 c1, .int .i64 k1, .string s1, .int .i64 n1, .slice a1 m1 c1, .int .i64 kSa, .string sSa, .int .i64 nSa, .slice aSa mSa cSa] 25)) := hz6.alloc hz6.size _
      refine wpAnyH_ready (rs := [15]) (by kernel_rfl) (by simp) ?_
      refine AllReadyH.cons rfl (fun K hK => ?_) AllReadyH.nil
      go_simp
      refine hK.out _ _ ?_ (fun hHeld => ?_)
      · exact HS.out _ hzA
      clear hK K
      refine wpAnyH_ready (rs := [16]) (by kernel_rfl) (by simp) ?_
      refine AllReadyH.cons rfl (fun K hK => ?_) AllReadyH.nil
      go_simp
      refine (row_n HSL.out (by simp) (by simp)).mono ?_
      rintro e y7 ⟨kRa, sRa, nRa, aRa, mRa, cRa, rfl, hRa, hy7⟩
      have hz7 : Below w5.heap.size w5 y7 := hzA.trans (hy7.mono hzA.size)
      have Ra := hide hRa
      clear hRa
      go_simp
      refine hK.out _ _ ?_ (fun hHeld => ?_)
      · exact HS.out _ hz7
      clear hK K
      refine wpAnyH_ready (rs := [17]) (by kernel_rfl) (by simp) ?_
      refine AllReadyH.cons rfl (fun K hK => ?_) AllReadyH.nil
      go_simp
      refine (right_n Ra.out).mono ?_
      rintro e y8 ⟨rfl, hy8⟩
      rw [right_row3 HK.out HR.out]
      have hz8 : Below w5.heap.size w5 y8 := hz7.trans (hy8.mono hz7.size)
      go_simp
      refine hK.out _ _ ?_ (fun hHeld => ?_)
      · exact HS.out _ hz8
      clear hK K
      refine wpAnyH_take (i := 18) (v := ?_) rfl (by kernel_rfl) (by kernel_rfl) (by kernel_rfl) (fun _ _ _ h => h) (Or.inl ⟨by rfl, ?_⟩) (by assumption) ?_
      rotate_left
      · intro w hSw; (try dsimp only at hSw); (try go_split_ands); go_simp
        all_goals with_reducible rfl
      try simp only [Act.put, List.getElem_toArray, List.getElem_cons_zero, List.getElem_cons_succ, List.setIfInBounds_toArray, List.set_cons_zero, List.set_cons_succ]
      refine wpAnyH_take (i := 19) (v := ?_) rfl (by kernel_rfl) (by kernel_rfl) (by kernel_rfl) (fun _ _ _ h => h) (Or.inl ⟨by rfl, ?_⟩) (by assumption) ?_
      rotate_left
      · intro w hSw; (try dsimp only at hSw); (try go_split_ands); go_simp
        all_goals with_reducible rfl
      try simp only [Act.put, List.getElem_toArray, List.getElem_cons_zero, List.getElem_cons_succ, List.setIfInBounds_toArray, List.set_cons_zero, List.set_cons_succ]
      refine wpAnyH_take (i := 20) (v := ?_) rfl (by kernel_rfl) (by kernel_rfl) (by kernel_rfl) (fun _ _ _ h => h) (Or.inl ⟨by rfl, ?_⟩) (by assumption) ?_
      rotate_left
      · intro w hSw; (try dsimp only at hSw); (try go_split_ands); go_simp
        all_goals with_reducible rfl
      try simp only [Act.put, List.getElem_toArray, List.getElem_cons_zero, List.getElem_cons_succ, List.setIfInBounds_toArray, List.set_cons_zero, List.set_cons_succ]
      refine wpAnyH_ready (rs := [21]) (by kernel_rfl) (by simp) ?_
      refine AllReadyH.cons rfl (fun K hK => ?_) AllReadyH.nil
      go_simp
      refine (right_n (X5.out.below hz8)).mono ?_
      rintro e y9 ⟨rfl, hy9⟩
      rw [HXR.out]
      have hz9 : Below w5.heap.size w5 y9 := hz8.trans (hy9.mono hz8.size)
      go_simp
      refine hK.out _ _ ?_ (fun hHeld => ?_)
      · exact HS.out _ hz9
      clear hK K
      refine wpAnyH_take (i := 22) (v := ?_) rfl (by kernel_rfl) (by kernel_rfl) (by kernel_rfl) (fun _ _ _ h => h) (Or.inl ⟨by rfl, ?_⟩) (by assumption) ?_
      rotate_left
      · intro w hSw; (try dsimp only at hSw); (try go_split_ands); go_simp
        all_goals with_reducible rfl
      try simp only [Act.put, List.getElem_toArray, List.getElem_cons_zero, List.getElem_cons_succ, List.setIfInBounds_toArray, List.set_cons_zero, List.set_cons_succ]
      refine wpAnyH_take (i := 23) (v := ?_) rfl (by kernel_rfl) (by kernel_rfl) (by kernel_rfl) (fun _ _ _ h => h) (Or.inl ⟨by rfl, ?_⟩) (by assumption) ?_
      rotate_left
      · intro w hSw; (try dsimp only at hSw); (try go_split_ands); go_simp
        all_goals with_reducible rfl
      try simp only [Act.put, List.getElem_toArray, List.getElem_cons_zero, List.getElem_cons_succ, List.setIfInBounds_toArray, List.set_cons_zero, List.set_cons_succ]
      refine wpAnyH_take (i := 24) (v := ?_) rfl (by kernel_rfl) (by kernel_rfl) (by kernel_rfl) (fun _ _ _ h => h) (Or.inl ⟨by rfl, ?_⟩) (by assumption) ?_
      rotate_left
      · intro w hSw; (try dsimp only at hSw); (try go_split_ands); go_simp
        all_goals with_reducible rfl
      try simp only [Act.put, List.getElem_toArray, List.getElem_cons_zero, List.getElem_cons_succ, List.setIfInBounds_toArray, List.set_cons_zero, List.set_cons_succ]
      refine wpAnyH_take (i := 25) (v := ?_) rfl (by kernel_rfl) (by kernel_rfl) (by kernel_rfl) (fun _ _ _ h => h) (Or.inl ⟨by rfl, ?_⟩) (by assumption) ?_
      rotate_left
      · intro w hSw; (try dsimp only at hSw); (try go_split_ands); go_simp
        all_goals with_reducible rfl
      try simp only [Act.put, List.getElem_toArray, List.getElem_cons_zero, List.getElem_cons_succ, List.setIfInBounds_toArray, List.set_cons_zero, List.set_cons_succ]
      refine wpAnyH_ready (rs := [26]) (by kernel_rfl) (by simp) ?_
      refine AllReadyH.cons rfl (fun K hK => ?_) AllReadyH.nil
      go_simp
      refine (fit_n (X5.out.below hz9)).mono ?_
      rintro e y10 ⟨kFb, sFb, nFb, aFb, mFb, cFb, rfl, hFb, hy10⟩
      have hz10 : Below w5.heap.size w5 y10 := hz9.trans (hy10.mono hz9.size)
      have Fb := hide hFb
      clear hFb
      go_simp
      refine hK.out _ _ ?_ (fun hHeld => ?_)
      · exact HS.out _ hz10
      clear hK K
      refine wpAnyH_ready (rs := [27]) (by kernel_rfl) (by simp) ?_
      refine AllReadyH.cons rfl (fun K hK => ?_) AllReadyH.nil
      go_simp
      refine (right_n Fb.out).mono ?_
      rintro e y11 ⟨rfl, hy11⟩
      rw [right_fit, HXR.out]
      have hz11 : Below w5.heap.size w5 y11 := hz10.trans (hy11.mono hz10.size)
      go_simp
      refine hK.out _ _ ?_ (fun hHeld => ?_)
      · exact HS.out _ hz11
      clear hK K
      refine wpAnyH_take (i := 28) (v := ?_) rfl (by kernel_rfl) (by kernel_rfl) (by kernel_rfl) (fun _ _ _ h => h) (Or.inl ⟨by rfl, ?_⟩) (by assumption) ?_
      rotate_left
      · intro w hSw; (try dsimp only at hSw); (try go_split_ands); go_simp
        all_goals with_reducible rfl
      try simp only [Act.put, List.getElem_toArray, List.getElem_cons_zero, List.getElem_cons_succ, List.setIfInBounds_toArray, List.set_cons_zero, List.set_cons_succ]
      refine wpAnyH_take (i := 29) (v := ?_) rfl (by kernel_rfl) (by kernel_rfl) (by kernel_rfl) (fun _ _ _ h => h) (Or.inl ⟨by rfl, ?_⟩) (by assumption) ?_
      rotate_left
      · intro w hSw; (try dsimp only at hSw); (try go_split_ands); go_simp
        all_goals with_reducible rfl
      try simp only [Act.put, List.getElem_toArray, List.getElem_cons_zero, List.getElem_cons_succ, List.setIfInBounds_toArray, List.set_cons_zero, List.set_cons_succ]
      refine wpAnyH_take (i := 30) (v := ?_) rfl (by kernel_rfl) (by kernel_rfl) (by kernel_rfl) (fun _ _ _ h => h) (Or.inl ⟨by rfl, ?_⟩) (by assumption) ?_
      rotate_left
      · intro w hSw; (try dsimp only at hSw); (try go_split_ands); go_simp
        all_goals with_reducible rfl
      try simp only [Act.put, List.getElem_toArray, List.getElem_cons_zero, List.getElem_cons_succ, List.setIfInBounds_toArray, List.set_cons_zero, List.set_cons_succ]
      refine wpAnyH_take (i := 31) (v := ?_) rfl (by kernel_rfl) (by kernel_rfl) (by kernel_rfl) (fun _ _ _ h => h) (Or.inl ⟨by rfl, ?_⟩) (by assumption) ?_
      rotate_left
      · intro w hSw; (try dsimp only at hSw); (try go_split_ands); go_simp
        all_goals with_reducible rfl
      try simp only [Act.put, List.getElem_toArray, List.getElem_cons_zero, List.getElem_cons_succ, List.setIfInBounds_toArray, List.set_cons_zero, List.set_cons_succ]
      refine wpAnyH_take (i := 32) (v := ?_) rfl (by kernel_rfl) (by kernel_rfl) (by kernel_rfl) (fun _ _ _ h => h) (Or.inl ⟨by rfl, ?_⟩) (by assumption) ?_
      rotate_left
      · intro w hSw; (try dsimp only at hSw); (try go_split_ands); go_simp
        all_goals with_reducible rfl
      try simp only [Act.put, List.getElem_toArray, List.getElem_cons_zero, List.getElem_cons_succ, List.setIfInBounds_toArray, List.set_cons_zero, List.set_cons_succ]
      have hpair : Is (y11.alloc (.cells #[.int .i64 k1, .string s1, .int .i64 n1, .slice a1 m1 c1, .int .i64 kx, .string sx, .int .i64 nx, .slice ax mx cx] 25)) (.mk 7 ByteArray.empty 0 (Dcs.ofL [d, x])) _ := IsDc.join (by omega) (by omega) (by decide) (isl_lit (IsRow.two (D5.out.below hz11) (X5.out.below hz11)) (by simp [maxLen]))
      have HPA := hide hpair
      clear hpair
      have hzB : Below w5.heap.size w5 (y11.alloc (.cells #[.int .i64 k1, .string s1, .int .i64 n1, .slice a1 m1 c1, .int .i64 kx, .string sx, .int .i64 nx, .slice ax mx cx] 25)) := hz11.alloc hz11.size _
      refine wpAnyH_ready (rs := [33]) (by kernel_rfl) (by simp) ?_
      refine AllReadyH.cons rfl (fun K hK => ?_) AllReadyH.nil
      go_simp
      refine hK.out _ _ ?_ (fun hHeld => ?_)
      · exact HS.out _ hzB
      clear hK K
      refine wpAnyH_take (i := 34) (v := ?_) rfl (by kernel_rfl) (by kernel_rfl) (by kernel_rfl) (fun _ _ _ h => h) (Or.inl ⟨by rfl, ?_⟩) (by assumption) ?_
      rotate_left
      · intro w hSw; (try dsimp only at hSw); (try go_split_ands); go_simp
        all_goals with_reducible rfl
      try simp only [Act.put, List.getElem_toArray, List.getElem_cons_zero, List.getElem_cons_succ, List.setIfInBounds_toArray, List.set_cons_zero, List.set_cons_succ]
      refine wpAnyH_ready (rs := [35]) (by kernel_rfl) (by simp) ?_
      refine AllReadyH.cons rfl (fun K hK => ?_) AllReadyH.nil
      go_simp
      refine (right_n HPA.out).mono ?_
      rintro e y12 ⟨rfl, hy12⟩
      rw [right_pair, HR.out, HXR.out]
      have hz12 : Below w5.heap.size w5 y12 := hzB.trans (hy12.mono hzB.size)
      go_simp
      refine hK.out _ _ ?_ (fun hHeld => ?_)
      · exact HS.out _ hz12
      clear hK K
      refine wpAnyH_take (i := 36) (v := ?_) rfl (by kernel_rfl) (by kernel_rfl) (by kernel_rfl) (fun _ _ _ h => h) (Or.inl ⟨by rfl, ?_⟩) (by assumption) ?_
      rotate_left
      · intro w hSw; (try dsimp only at hSw); (try go_split_ands); go_simp
        all_goals with_reducible rfl
      try simp only [Act.put, List.getElem_toArray, List.getElem_cons_zero, List.getElem_cons_succ, List.setIfInBounds_toArray, List.set_cons_zero, List.set_cons_succ]
      refine wpAnyH_take (i := 37) (v := ?_) rfl (by kernel_rfl) (by kernel_rfl) (by kernel_rfl) (fun _ _ _ h => h) (Or.inl ⟨by rfl, ?_⟩) (by assumption) ?_
      rotate_left
      · intro w hSw; (try dsimp only at hSw); (try go_split_ands); go_simp
        all_goals with_reducible rfl
      try simp only [Act.put, List.getElem_toArray, List.getElem_cons_zero, List.getElem_cons_succ, List.setIfInBounds_toArray, List.set_cons_zero, List.set_cons_succ]
      refine wpAnyH_take (i := 38) (v := ?_) rfl (by kernel_rfl) (by kernel_rfl) (by kernel_rfl) (fun _ _ _ h => h) (Or.inl ⟨by rfl, ?_⟩) (by assumption) ?_
      rotate_left
      · intro w hSw; (try dsimp only at hSw); (try go_split_ands); go_simp
        all_goals with_reducible rfl
      try simp only [Act.put, List.getElem_toArray, List.getElem_cons_zero, List.getElem_cons_succ, List.setIfInBounds_toArray, List.set_cons_zero, List.set_cons_succ]
      refine wpAnyH_done (by kernel_rfl) ?_ _
      go_wp2_with fail
      go_ret
      exact ⟨rfl, hB5.trans (hz12.mono hB5.size)⟩
end Go.Proofs.Ytggbocimapdidaa
