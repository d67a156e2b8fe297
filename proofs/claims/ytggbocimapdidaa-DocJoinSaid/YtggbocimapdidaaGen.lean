/-
  The walk of Doc: it makes the document that choices say.
  Its condition: the slice reads as bytes.
-/
import Derived.Test.YtggbocimapdidaaGenP
import Derived.Test.YtggbocimapdidaaLaw
import Derived.Test.YtggbocimapdidaaRefRow
import Derived.Deep.CutRange
import Derived.Deep.RegionHeld
import Derived.IntWalk
namespace Go.Proofs.Ytggbocimapdidaa
open Go.RowKit

theorem refSay_a (s : ByteArray) (w : World) (hs : s.size ≤ maxLen) : Calls Try.prog 21 #[.string s] w (DcPost w (fun _ => False) (sayD s)) := refSay_any _ s w hs
theorem Held.cut {B N K : Nat} {ds : List Dc} {w : World} {la : Option Addr} {lc : Nat} (h : Held B (.slice la (N + K) lc) ds w) (hl : ds.length = N + K) : Held B (.slice la N lc) (ds.take N) w := by
  have h0 := h
  obtain ⟨xs, h1, h2⟩ := h
  rw [hl] at h1
  rcases h1.2 with ⟨hv, hn⟩ | ⟨g, cap, cur, hv, _⟩
  · obtain ⟨rfl, -, rfl⟩ : la = none ∧ N + K = 0 ∧ lc = 0 := by simpa using hv
    obtain rfl : N = 0 := by omega
    rw [List.take_zero]
    exact Held.nil B w
  · obtain ⟨rfl, -, rfl⟩ : la = some ⟨g, 0, none⟩ ∧ True ∧ lc = cap := by simpa using hv
    exact h0.take hl
theorem Held.form {B n : Nat} {ds : List Dc} {w : World} {v : Value} (h : Held B v ds w) (hl : ds.length = n) : ∃ la lc, v = .slice la n lc ∧ n ≤ lc ∧ lc ≤ maxLen ∧ (0 < n → ∃ g, la = some ⟨g, 0, none⟩) := by
  subst hl
  obtain ⟨xs, h1, h2⟩ := h
  rcases h1.2 with ⟨rfl, hn⟩ | ⟨g, cap, cur, rfl, _, _, h3, h4, _⟩
  · rw [hn]; exact ⟨none, 0, rfl, by omega, by decide, by omega⟩
  · exact ⟨_, cap, rfl, h3, h4, fun _ => ⟨g, rfl⟩⟩
/-- What the generator hands back. -/
def GenPost (w : World) (e : Ending) (w' : World) : Prop := ∃ d : Dc, d.kind = 7 ∧ totD d ≤ 500 ∧ DcNew w d e w'
/-- The end of a function whose result lies in cells. -/
theorem made_any {fn : Func} {p : Tmp} {tmps : Array Value} {W : World} {R : Ending → World → Prop} {g : Nat} {cs : Array Value} (hr : fn.results = #[.cell p 25]) (hp : tmps.getD p undef = .pointer (some ⟨g, 0, none⟩)) (hb : Blk W g 25 cs) (hs : cs.size = 4)
    (hR : R (.returned (.agg cs)) W) : bodyPost Try.prog fn R .ret { tmps := tmps, defers := [] } W :=
  bodyPost_ret (results_cell_row hr tmps W g 25 cs (0, 0) _ hp hb Try.underlying25 rfl (by rw [hs]; kernel_rfl)) rfl hR
theorem gen_end {w W0 wr : World} {ds : List Dc} {la : Option Addr} {n lc r : Nat} (hZ : W0.heap.size = w.heap.size + 2) (hbW0 : Below w.heap.size w W0) (hh : Held W0.heap.size (.slice la n lc) ds wr) (hr : r ≤ 40) (ht : totL ds ≤ 12 * r) (hb : Below W0.heap.size W0 wr) (hl : ds.length = n) :
    GenPost w (.returned (.agg #[.int .i64 7, .string ⟨#[]⟩, .int .i64 0, .slice la n lc])) (put4 wr w.heap.size (.int .i64 7) (.string ⟨#[]⟩) (.int .i64 0) (.slice la n lc)) := by
  refine ⟨.mk 7 ByteArray.empty 0 (Dcs.ofL ds), rfl, ?_, 7, ⟨#[]⟩, 0, la, n, lc, rfl, ?_, ?_⟩
  · rw [totD, totDs_L, Dcs.toL_ofL]
    simp
    omega
  · obtain ⟨xs, h1, h2⟩ := hh
    refine IsDc.join (by omega) (by omega) (by decide) (IsSl.of_own (base := W0.heap.size) (own_heap h1 (fun b hb' => heap_put4 _ (by omega) _ _ _ _)) (h2.keep fun b hb' => ⟨?_, heap_put4 _ (by have := hb'.1; omega) _ _ _ _⟩) (fun g e => ?_))
    · rw [size_put4]; exact hb'.2.1
    · rw [size_put4]; exact (h1.lt g e).2
  · exact below_put4 (hbW0.trans (hb.mono hbW0.size)) (Nat.le_refl _) _ _ _ _
/-- Kids of the row's end. -/
def KidsOf (B : Nat) (v : Value) (ds : List Dc) (N : Nat) (w : World) (v7 : Value) (w' : World) : Prop := IsSl w' (Away B v w') (ds.drop N) v7 ∧ Below w.heap.size w w'


set_option maxHeartbeats 8000000 in
set_option maxRecDepth 100000 in
theorem gen_any (a : Option Addr) (m cap : Nat) (c : List Int) (w : World) (hI : IsBytes w (· < w.heap.size) a m c) :
    Calls Try.prog 8 #[.slice a m cap] w (GenPost w) := by
  have hml : m = c.length := hI.1
  have hmm : m ≤ 9223372036854775807 := hI.2.1
  subst hml
  obtain ⟨W0, hW0⟩ : ∃ W0, ((w.alloc (.cells #[.int .i64 0, .string ⟨#[]⟩, .int .i64 0, .slice none 0 0] 25)).alloc (.cells #[.string ⟨#[97]⟩, .string ⟨#[98, 99, 100]⟩, .string ⟨#[195, 169, 226, 130, 172]⟩, .string ⟨#[120, 10, 121]⟩, .string ⟨#[32]⟩, .string ⟨#[40]⟩, .string ⟨#[97, 32, 108, 111, 110, 103, 32, 119, 111, 114, 100]⟩] 9)) = W0 := ⟨_, rfl⟩
  have HZ := hide (show W0.heap.size = w.heap.size + 2 by rw [← hW0]; simp)
  have bR : Blk W0 w.heap.size 25 #[.int .i64 0, .string ⟨#[]⟩, .int .i64 0, .slice none 0 0] := hW0 ▸ (Blk.new w 25 _).alloc _
  have bT : Blk W0 (w.heap.size + 1) 9 #[.string ⟨#[97]⟩, .string ⟨#[98, 99, 100]⟩, .string ⟨#[195, 169, 226, 130, 172]⟩, .string ⟨#[120, 10, 121]⟩, .string ⟨#[32]⟩, .string ⟨#[40]⟩, .string ⟨#[97, 32, 108, 111, 110, 103, 32, 119, 111, 114, 100]⟩] := by
    have := Blk.new (w.alloc (.cells #[.int .i64 0, .string ⟨#[]⟩, .int .i64 0, .slice none 0 0] 25)) 9 #[.string ⟨#[97]⟩, .string ⟨#[98, 99, 100]⟩, .string ⟨#[195, 169, 226, 130, 172]⟩, .string ⟨#[120, 10, 121]⟩, .string ⟨#[32]⟩, .string ⟨#[40]⟩, .string ⟨#[97, 32, 108, 111, 110, 103, 32, 119, 111, 114, 100]⟩]
    rw [World.size_alloc, hW0] at this
    exact this
  have hbW0 : Below w.heap.size w W0 := hW0 ▸ ((Below.refl _ w).alloc (Nat.le_refl _) _).alloc (by simp) _
  have HBR := hide bR
  have HBT := hide bT
  have HII := hide hI
  clear bR bT
  go_enter Try.func8, Try.ntmps8
  go_wp2_with fail
  clear hW0
  go_loopw [3, 5] (fun l i wr => ∃ (r : Nat) (ds : List Dc), i = .int .i64 (2 * (r : Int)) ∧ r ≤ 40 ∧ Held W0.heap.size l ds wr ∧ ds.length ≤ r ∧ totL ds ≤ 12 * r ∧ Below W0.heap.size W0 wr) (fun _ i _ => 90 - (intOf i).toNat)
  case atStart => exact ⟨0, [], by simp, by omega, Held.nil _ _, Nat.le_refl _, Nat.le_refl _, Below.refl _ _⟩
  case round =>
    obtain ⟨r, ds, rfl, hr, hheld, hdl, hdt, hb⟩ := hrel
    by_cases h1 : 2 * r + 1 < c.length
    · by_cases h2 : r < 40
      · obtain ⟨b, o, rfl, hFb, g0, b00, b01⟩ := HII.out.get (show 2 * r < c.length by omega)
        obtain ⟨b', o', hbo, hFb', g1, b10, b11⟩ := HII.out.get (show 2 * r + 1 < c.length by omega)
        simp only [Option.some.injEq, Addr.mk.injEq, and_true] at hbo
        obtain ⟨rfl, rfl⟩ := hbo
        have hbw : Below w.heap.size w wr := hbW0.trans (hb.mono hbW0.size)
        replace g0 := (hbw.cell (p := ⟨b, o + 2 * r, none⟩) hFb).trans g0
        replace g1 := (hbw.cell (p := ⟨b, o + (2 * r + 1), none⟩) hFb).trans g1
        have HG0 := hide g0
        have HG1 := hide g1
        obtain ⟨K, hK1, hK2, hK3⟩ : ∃ K : Nat, min (c[2 * r + 1] % 4) (ds.length : Int) = K ∧ K ≤ ds.length ∧ K ≤ 3 := ⟨(min (c[2 * r + 1] % 4) (ds.length : Int)).toNat, by omega, by omega, by omega⟩
        obtain ⟨N, hN⟩ : ∃ N, ds.length = N + K := ⟨ds.length - K, by omega⟩
        rw [hN] at hK1 hK2 hdl
        rw [Int.natCast_add] at hK1
        obtain ⟨la, lc, rfl, hlc1, hlc2, hla⟩ := hheld.form hN
        simp only [maxLen] at hlc2
        have HH := hide hheld
        have HN := hide hN
        have HT := hide hdt
        clear hheld hN hdt
        go_upto_region 8 with fail
        go_cut [7] from 9 to 137 (fun v7 wx => KidsOf W0.heap.size (.slice la (N + K) lc) ds N wr v7 wx)
        case first =>
          clear g0 g1 HG0 HG1
          rcases Nat.eq_zero_or_pos K with hK0 | hK0
          · subst hK0
            simp only [Nat.add_zero] at hlc1 hdl hK1 HH HN hla ⊢
            have hrel0 : KidsOf W0.heap.size (.slice la N lc) ds N wr (.slice none 0 0) wr :=
              ⟨⟨none, 0, by rw [List.drop_eq_nil_of_le (by rw [HN.out]; omega)]; rfl, by rw [List.drop_eq_nil_of_le (by rw [HN.out]; omega)]; decide, fun h => absurd (by rw [List.drop_eq_nil_of_le (by rw [HN.out]; omega)]; rfl) h⟩, Below.refl _ _⟩
            have HR0 := hide hrel0
            clear hrel0
            by_cases hc : lc = N
            · subst hc
              go_wp2_with (at_builtin; refine wpList_append_run rfl (.tmp 30) (.tmp 36) rfl rfl rfl rfl (append_none _ _ _) ?_)
              go_meet
              exact HR0.out
            · go_wp2_with (at_builtin; refine wpList_append_run rfl (.tmp 30) (.tmp 36) rfl rfl rfl rfl (append_none _ _ _) ?_)
              go_meet
              exact HR0.out
          · obtain ⟨g, rfl⟩ := hla (by omega)
            obtain ⟨v7, w7, hap, hsl, hb7⟩ := HH.out.kids HN.out hK0 (by omega) hb.size (lc - N)
            have hc : ¬ lc = N := by omega
            have HSL := hide hsl
            clear hsl
            go_wp2_with (at_builtin; refine wpList_append_run rfl (.tmp 30) (.tmp 36) rfl rfl rfl rfl hap ?_)
            go_meet
            exact ⟨HSL.out, hb7⟩
        case rest =>
          obtain ⟨hsl, hb7⟩ : IsSl wc (Away W0.heap.size (.slice la (N + K) lc) wc) (ds.drop N) u7 ∧ Below wr.heap.size wr wc := hcut
          clear g0 g1
          have hz := hb.size
          have hw7 : Below w.heap.size w wc := hbw.trans (hb7.mono hbw.size)
          have hW7 : Below W0.heap.size W0 wc := hb.trans (hb7.mono hz)
          have hB7 : W0.heap.size ≤ wc.heap.size := hW7.size
          have g0 := (hb7.cell (p := ⟨b, o + 2 * r, none⟩) (Nat.lt_of_lt_of_le hFb hbw.size)).trans HG0.out
          have g1 := (hb7.cell (p := ⟨b, o + (2 * r + 1), none⟩) (Nat.lt_of_lt_of_le hFb hbw.size)).trans HG1.out
          have H7 := hide (HH.out.below hb7)
          have HSL := hide hsl
          clear hsl HG0 HG1 HH hK1 hla
          obtain ⟨t, ht, ht0, ht9⟩ : ∃ t : Int, c[2 * r] % 10 = t ∧ 0 ≤ t ∧ t ≤ 9 := ⟨_, rfl, by omega, by omega⟩
          have htc : t = 0 ∨ t = 1 ∨ t = 2 ∨ t = 3 ∨ t = 4 ∨ t = 5 ∨ t = 6 ∨ t = 7 ∨ t = 8 ∨ t = 9 := by omega
          clear ht0 ht9
          rcases htc with rfl | rfl | rfl | rfl | rfl | rfl | rfl | rfl | rfl | rfl
          · obtain ⟨J, hJ, hJ7⟩ : ∃ J : Nat, c[2 * r + 1] % 7 = J ∧ J < 7 := ⟨(c[2 * r + 1] % 7).toNat, by omega, by omega⟩
            obtain ⟨tx, htx, hts⟩ : ∃ tx : ByteArray, wc.cell? ⟨w.heap.size + 1, J, none⟩ = some (.string tx) ∧ tx.size ≤ 11 := by
              have hbt := HBT.out.below hW7 HBT.out.lt
              have hJc : J = 0 ∨ J = 1 ∨ J = 2 ∨ J = 3 ∨ J = 4 ∨ J = 5 ∨ J = 6 := by omega
              rcases hJc with rfl | rfl | rfl | rfl | rfl | rfl | rfl <;> exact ⟨_, (hbt.cell _).trans rfl, by decide⟩
            go_wp2_with fail
            refine (refSay_any (Away W0.heap.size (.slice la (N + K) lc) wc) tx wc (by simp only [maxLen]; omega)).mono ?_
            rintro e w8 hp8
            obtain ⟨k8, s8, n8, a8, m8, c8, rfl, hd8, hb8⟩ := away_new H7.out hB7 hp8
            have hT8 : totD (sayD tx) ≤ 12 := by
              rw [sayD]
              split
              · simp [totD, totDs]
              · simp [totD, totDs]; omega
            obtain ⟨v9, w9, hr9, hh9, hb9⟩ := (H7.out.below hb8).snoc hd8 (by rw [HN.out]; omega) (Nat.le_trans hB7 hb8.size)
            have H9 := hide hh9
            have hB9 : Below W0.heap.size W0 w9 := (hW7.trans (hb8.mono hB7)).trans hb9
            clear hp8 hd8 hb8 hb9 hh9 g0 g1 htx
            go_wp2_with (at_builtin; refine wpList_append_run rfl (.tmp 58) (.tmp 69) rfl rfl rfl rfl hr9 ?_)
            go_roundw
            case rel => exact ⟨r + 1, ds ++ [sayD tx], by rw [show (2 * (r : Int) + 2) = 2 * ((r + 1 : Nat) : Int) by omega], by omega, H9.out, by rw [List.length_append, HN.out]; simp; omega, by have h5 := HT.out; rw [totL_append]; simp only [totL]; omega, hB9⟩
            case measure => simp [intOf]; omega
          · obtain ⟨J, hJ, hJ7⟩ : ∃ J : Nat, c[2 * r + 1] % 7 = J ∧ J < 7 := ⟨(c[2 * r + 1] % 7).toNat, by omega, by omega⟩
            obtain ⟨tx, htx, hts⟩ : ∃ tx : ByteArray, wc.cell? ⟨w.heap.size + 1, J, none⟩ = some (.string tx) ∧ tx.size ≤ 11 := by
              have hbt := HBT.out.below hW7 HBT.out.lt
              have hJc : J = 0 ∨ J = 1 ∨ J = 2 ∨ J = 3 ∨ J = 4 ∨ J = 5 ∨ J = 6 := by omega
              rcases hJc with rfl | rfl | rfl | rfl | rfl | rfl | rfl <;> exact ⟨_, (hbt.cell _).trans rfl, by decide⟩
            go_wp2_with fail
            refine (refSay_any (Away W0.heap.size (.slice la (N + K) lc) wc) tx wc (by simp only [maxLen]; omega)).mono ?_
            rintro e w8 hp8
            obtain ⟨k8, s8, n8, a8, m8, c8, rfl, hd8, hb8⟩ := away_new H7.out hB7 hp8
            have hT8 : totD (sayD tx) ≤ 12 := by
              rw [sayD]
              split
              · simp [totD, totDs]
              · simp [totD, totDs]; omega
            obtain ⟨v9, w9, hr9, hh9, hb9⟩ := (H7.out.below hb8).snoc hd8 (by rw [HN.out]; omega) (Nat.le_trans hB7 hb8.size)
            have H9 := hide hh9
            have hB9 : Below W0.heap.size W0 w9 := (hW7.trans (hb8.mono hB7)).trans hb9
            clear hp8 hd8 hb8 hb9 hh9 g0 g1 htx
            go_wp2_with (at_builtin; refine wpList_append_run rfl (.tmp 58) (.tmp 69) rfl rfl rfl rfl hr9 ?_)
            go_roundw
            case rel => exact ⟨r + 1, ds ++ [sayD tx], by rw [show (2 * (r : Int) + 2) = 2 * ((r + 1 : Nat) : Int) by omega], by omega, H9.out, by rw [List.length_append, HN.out]; simp; omega, by have h5 := HT.out; rw [totL_append]; simp only [totL]; omega, hB9⟩
            case measure => simp [intOf]; omega
          · obtain ⟨J, hJ, hJ7⟩ : ∃ J : Nat, c[2 * r + 1] % 7 = J ∧ J < 7 := ⟨(c[2 * r + 1] % 7).toNat, by omega, by omega⟩
            obtain ⟨tx, htx, hts⟩ : ∃ tx : ByteArray, wc.cell? ⟨w.heap.size + 1, J, none⟩ = some (.string tx) ∧ tx.size ≤ 11 := by
              have hbt := HBT.out.below hW7 HBT.out.lt
              have hJc : J = 0 ∨ J = 1 ∨ J = 2 ∨ J = 3 ∨ J = 4 ∨ J = 5 ∨ J = 6 := by omega
              rcases hJc with rfl | rfl | rfl | rfl | rfl | rfl | rfl <;> exact ⟨_, (hbt.cell _).trans rfl, by decide⟩
            go_wp2_with fail
            refine (refSay_any (Away W0.heap.size (.slice la (N + K) lc) wc) tx wc (by simp only [maxLen]; omega)).mono ?_
            rintro e w8 hp8
            obtain ⟨k8, s8, n8, a8, m8, c8, rfl, hd8, hb8⟩ := away_new H7.out hB7 hp8
            have hT8 : totD (sayD tx) ≤ 12 := by
              rw [sayD]
              split
              · simp [totD, totDs]
              · simp [totD, totDs]; omega
            obtain ⟨v9, w9, hr9, hh9, hb9⟩ := (H7.out.below hb8).snoc hd8 (by rw [HN.out]; omega) (Nat.le_trans hB7 hb8.size)
            have H9 := hide hh9
            have hB9 : Below W0.heap.size W0 w9 := (hW7.trans (hb8.mono hB7)).trans hb9
            clear hp8 hd8 hb8 hb9 hh9 g0 g1 htx
            go_wp2_with (at_builtin; refine wpList_append_run rfl (.tmp 58) (.tmp 69) rfl rfl rfl rfl hr9 ?_)
            go_roundw
            case rel => exact ⟨r + 1, ds ++ [sayD tx], by rw [show (2 * (r : Int) + 2) = 2 * ((r + 1 : Nat) : Int) by omega], by omega, H9.out, by rw [List.length_append, HN.out]; simp; omega, by have h5 := HT.out; rw [totL_append]; simp only [totL]; omega, hB9⟩
            case measure => simp [intOf]; omega
          · obtain ⟨q, hq, hq0, hq1⟩ : ∃ q : Int, c[2 * r + 1] % 4 = q ∧ 0 ≤ q ∧ q ≤ 4 := ⟨_, rfl, by omega, by omega⟩
            have hT8 : totD (.mk 2 ByteArray.empty 0 .nil) ≤ 12 := by simp [totD, totDs]
            obtain ⟨v9, w9, hr9, hh9, hb9⟩ := H7.out.snoc (d := .mk 2 ByteArray.empty 0 .nil) (IsDc.leaf (cap := 0) (by omega) (by omega) (by decide)) (by rw [HN.out]; omega) hB7
            have H9 := hide hh9
            have hB9 : Below W0.heap.size W0 w9 := hW7.trans hb9
            clear hb9 hh9
            go_wp2_with (at_builtin; refine wpList_append_run rfl (.tmp 74) (.tmp 76) rfl rfl rfl rfl hr9 ?_)
            go_roundw
            case rel => exact ⟨r + 1, ds ++ [.mk 2 ByteArray.empty 0 .nil], by rw [show (2 * (r : Int) + 2) = 2 * ((r + 1 : Nat) : Int) by omega], by omega, H9.out, by rw [List.length_append, HN.out]; simp; omega, by have h5 := HT.out; rw [totL_append]; simp only [totL]; omega, hB9⟩
            case measure => simp [intOf]; omega
          · obtain ⟨q, hq, hq0, hq1⟩ : ∃ q : Int, c[2 * r + 1] % 4 = q ∧ 0 ≤ q ∧ q ≤ 4 := ⟨_, rfl, by omega, by omega⟩
            have hT8 : totD (.mk 2 ByteArray.empty 0 .nil) ≤ 12 := by simp [totD, totDs]
            obtain ⟨v9, w9, hr9, hh9, hb9⟩ := H7.out.snoc (d := .mk 2 ByteArray.empty 0 .nil) (IsDc.leaf (cap := 0) (by omega) (by omega) (by decide)) (by rw [HN.out]; omega) hB7
            have H9 := hide hh9
            have hB9 : Below W0.heap.size W0 w9 := hW7.trans hb9
            clear hb9 hh9
            go_wp2_with (at_builtin; refine wpList_append_run rfl (.tmp 74) (.tmp 76) rfl rfl rfl rfl hr9 ?_)
            go_roundw
            case rel => exact ⟨r + 1, ds ++ [.mk 2 ByteArray.empty 0 .nil], by rw [show (2 * (r : Int) + 2) = 2 * ((r + 1 : Nat) : Int) by omega], by omega, H9.out, by rw [List.length_append, HN.out]; simp; omega, by have h5 := HT.out; rw [totL_append]; simp only [totL]; omega, hB9⟩
            case measure => simp [intOf]; omega
          · obtain ⟨q, hq, hq0, hq1⟩ : ∃ q : Int, c[2 * r + 1] / 200 = q ∧ 0 ≤ q ∧ q ≤ 4 := ⟨_, rfl, by omega, by omega⟩
            have hT8 : totD (.mk (3 + q) ByteArray.empty 0 .nil) ≤ 12 := by simp [totD, totDs]
            obtain ⟨v9, w9, hr9, hh9, hb9⟩ := H7.out.snoc (d := .mk (3 + q) ByteArray.empty 0 .nil) (IsDc.leaf (cap := 0) (by omega) (by omega) (by decide)) (by rw [HN.out]; omega) hB7
            have H9 := hide hh9
            have hB9 : Below W0.heap.size W0 w9 := hW7.trans hb9
            clear hb9 hh9
            go_wp2_with (at_builtin; refine wpList_append_run rfl (.tmp 80) (.tmp 90) rfl rfl rfl rfl hr9 ?_)
            go_roundw
            case rel => exact ⟨r + 1, ds ++ [.mk (3 + q) ByteArray.empty 0 .nil], by rw [show (2 * (r : Int) + 2) = 2 * ((r + 1 : Nat) : Int) by omega], by omega, H9.out, by rw [List.length_append, HN.out]; simp; omega, by have h5 := HT.out; rw [totL_append]; simp only [totL]; omega, hB9⟩
            case measure => simp [intOf]; omega
          · have hcut8 := H7.out.cut HN.out
            have hown : (Value.slice la N lc).ownBlock = (Value.slice la (N + K) lc).ownBlock := by cases la <;> rfl
            have hslc : IsSl wc (Away W0.heap.size (.slice la N lc) wc) (ds.drop N) u7 := HSL.out.keep fun b hb' => ⟨⟨hb'.1, hb'.2.1, by rw [hown]; exact hb'.2.2⟩, rfl⟩
            have hdl' : (ds.drop N).length = K := by rw [List.length_drop, HN.out]; omega
            have HC8 := hide hcut8
            have HS8 := hide hslc
            obtain ⟨a7, c7, rfl, hl7, -⟩ := hslc
            rw [hdl'] at HS8 HSL hl7 ⊢
            have h7K := hdl'
            have HDL := hide hdl'
            clear hcut8 hown hl7 hdl' h7K
            obtain ⟨wd, hwd⟩ : ∃ wd, wc.drew = wd := ⟨_, rfl⟩
            have hbd : Below wc.heap.size wc wd := hwd ▸ (Below.refl _ wc).drew
            have hd7 : IsDc wd (Away W0.heap.size (.slice la N lc) wd) (.mk 7 ByteArray.empty 0 (Dcs.ofL (ds.drop N))) (.agg #[.int .i64 7, .string ByteArray.empty, .int .i64 0, .slice a7 K c7]) := IsDc.join (by omega) (by omega) (by decide) (HS8.out.keep fun b hb' => ⟨⟨hb'.1, Nat.lt_of_lt_of_le hb'.2.1 hbd.size, hb'.2.2⟩, hbd.block b hb'.2.1⟩)
            have HD7 := hide hd7
            have HC8' := hide (HC8.out.below hbd)
            clear HC8
            have HC8 := HC8'
            clear HC8'
            have hBd : W0.heap.size ≤ wd.heap.size := Nat.le_trans hB7 hbd.size
            have hwd7 : Below w.heap.size w wd := hw7.trans (hbd.mono hw7.size)
            have hWd7 : Below W0.heap.size W0 wd := hW7.trans (hbd.mono hB7)
            have gd1 := (hbd.cell (p := ⟨b, o + (2 * r + 1), none⟩) (Nat.lt_of_lt_of_le hFb hw7.size)).trans g1
            clear hd7
            obtain ⟨X5, hX5, hX50, hX51⟩ : ∃ X : Int, c[2 * r + 1] % 5 = X ∧ 0 ≤ X ∧ X ≤ 4 := ⟨_, rfl, by omega, by omega⟩
            obtain ⟨X2, hX2, hX20, hX21⟩ : ∃ X : Int, c[2 * r + 1] % 2 = X ∧ 0 ≤ X ∧ X ≤ 1 := ⟨_, rfl, by omega, by omega⟩
            have m5 : (c[2 * r + 1]).tmod 5 = X5 := by rw [Int.tmod_eq_emod_of_nonneg b10]; exact hX5
            have m2 : (c[2 * r + 1]).tmod 2 = X2 := by rw [Int.tmod_eq_emod_of_nonneg b10]; exact hX2
            have e1 : IntKind.i64.wrap (2 * (r : Int) + 1) = 2 * (r : Int) + 1 := IntWalk.i64_in _ (by omega)
            have e2 : 2 * (r : Int) + 1 < (c.length : Int) := by omega
            have e20 : 0 ≤ 2 * (r : Int) + 1 := by omega
            have e3 : (2 * (r : Int) + 1).toNat = 2 * r + 1 := by omega
            have e4 : IntKind.i64.wrap (X5 - 2) = X5 - 2 := IntWalk.i64_in _ (by omega)
            have e5 : IntKind.i64.wrap (5 * X2) = 5 * X2 := IntWalk.i64_in _ (by omega)
            have e6 : IntKind.i64.wrap (X5 - 2 + 5 * X2) = X5 - 2 + 5 * X2 := IntWalk.i64_in _ (by omega)
            have e7 : IntKind.i64.wrap X5 = X5 := IntWalk.i64_in _ (by omega)
            have e8 : IntKind.i64.wrap X2 = X2 := IntWalk.i64_in _ (by omega)
            have e9 : IntKind.u8.wrap X5 = X5 := by unfold IntKind.wrap IntKind.signed IntKind.bits; simp; omega
            have e10 : IntKind.u8.wrap X2 = X2 := by unfold IntKind.wrap IntKind.signed IntKind.bits; simp; omega
            go_wp2_with fail
            refine wp_region_held_drew (S := fun w' => w'.cell? ⟨b, o + (2 * r + 1), none⟩ = some (.int .u8 c[2 * r + 1])) (by kernel_rfl) ?_ (fun hHeld => ?_)
            · exact g1
            rw [hwd] at hHeld ⊢
            refine wpAnyH_take (i := 0) (v := ?_) rfl (by kernel_rfl) (by kernel_rfl) (by kernel_rfl) (fun _ _ _ h => h) (Or.inl ⟨by rfl, ?_⟩) (by assumption) ?_
            rotate_left
            · intro w hSw; (try dsimp only at hSw); (try go_split_ands); go_simp
              all_goals with_reducible rfl
            try simp only [Act.put, List.getElem_toArray, List.getElem_cons_zero, List.getElem_cons_succ, List.setIfInBounds_toArray, List.set_cons_zero, List.set_cons_succ]
            refine wpAnyH_take (i := 1) (v := ?_) rfl (by kernel_rfl) (by kernel_rfl) (by kernel_rfl) (fun _ _ _ h => h) (Or.inl ⟨by rfl, ?_⟩) (by assumption) ?_
            rotate_left
            · intro w hSw; (try dsimp only at hSw); (try go_split_ands); go_simp
              all_goals with_reducible rfl
            try simp only [Act.put, List.getElem_toArray, List.getElem_cons_zero, List.getElem_cons_succ, List.setIfInBounds_toArray, List.set_cons_zero, List.set_cons_succ]
            refine wpAnyH_take (i := 2) (v := ?_) rfl (by kernel_rfl) (by kernel_rfl) (by kernel_rfl) (fun _ _ _ h => h) (Or.inl ⟨by rfl, ?_⟩) (by assumption) ?_
            rotate_left
            · intro w hSw; (try dsimp only at hSw); (try go_split_ands); go_simp
              all_goals with_reducible rfl
            try simp only [Act.put, List.getElem_toArray, List.getElem_cons_zero, List.getElem_cons_succ, List.setIfInBounds_toArray, List.set_cons_zero, List.set_cons_succ]
            refine wpAnyH_take (i := 3) (v := ?_) rfl (by kernel_rfl) (by kernel_rfl) (by kernel_rfl) (fun _ _ _ h => h) (Or.inl ⟨by rfl, ?_⟩) (by assumption) ?_
            rotate_left
            · intro w hSw; (try dsimp only at hSw); (try go_split_ands); go_simp
              all_goals with_reducible rfl
            try simp only [Act.put, List.getElem_toArray, List.getElem_cons_zero, List.getElem_cons_succ, List.setIfInBounds_toArray, List.set_cons_zero, List.set_cons_succ]
            refine wpAnyH_take (i := 4) (v := ?_) rfl (by kernel_rfl) (by kernel_rfl) (by kernel_rfl) (fun _ _ _ h => h) (Or.inl ⟨by rfl, ?_⟩) (by assumption) ?_
            rotate_left
            · intro w hSw; (try dsimp only at hSw); (try go_split_ands); go_simp
              all_goals with_reducible rfl
            try simp only [Act.put, List.getElem_toArray, List.getElem_cons_zero, List.getElem_cons_succ, List.setIfInBounds_toArray, List.set_cons_zero, List.set_cons_succ]
            refine wpAnyH_take (i := 5) (v := ?_) rfl (by kernel_rfl) (by kernel_rfl) (by kernel_rfl) (fun _ _ _ h => h) (Or.inl ⟨by rfl, ?_⟩) (by assumption) ?_
            rotate_left
            · intro w hSw; (try dsimp only at hSw); (try go_split_ands); go_simp
              all_goals with_reducible rfl
            try simp only [Act.put, List.getElem_toArray, List.getElem_cons_zero, List.getElem_cons_succ, List.setIfInBounds_toArray, List.set_cons_zero, List.set_cons_succ]
            refine wpAnyH_take (i := 6) (v := ?_) rfl (by kernel_rfl) (by kernel_rfl) (by kernel_rfl) (fun _ _ _ h => h) (Or.inl ⟨by rfl, ?_⟩) (by assumption) ?_
            rotate_left
            · intro w hSw; (try dsimp only at hSw); (try go_split_ands); go_simp
              all_goals with_reducible rfl
            try simp only [Act.put, List.getElem_toArray, List.getElem_cons_zero, List.getElem_cons_succ, List.setIfInBounds_toArray, List.set_cons_zero, List.set_cons_succ]
            refine wpAnyH_take (i := 7) (v := ?_) rfl (by kernel_rfl) (by kernel_rfl) (by kernel_rfl) (fun _ _ _ h => h) (Or.inl ⟨by rfl, ?_⟩) (by assumption) ?_
            rotate_left
            · intro w hSw; (try dsimp only at hSw); (try go_split_ands); go_simp
              all_goals with_reducible rfl
            try simp only [Act.put, List.getElem_toArray, List.getElem_cons_zero, List.getElem_cons_succ, List.setIfInBounds_toArray, List.set_cons_zero, List.set_cons_succ]
            refine wpAnyH_take (i := 8) (v := ?_) rfl (by kernel_rfl) (by kernel_rfl) (by kernel_rfl) (fun _ _ _ h => h) (Or.inl ⟨by rfl, ?_⟩) (by assumption) ?_
            rotate_left
            · intro w hSw; (try dsimp only at hSw); (try go_split_ands); go_simp
              all_goals with_reducible rfl
            try simp only [Act.put, List.getElem_toArray, List.getElem_cons_zero, List.getElem_cons_succ, List.setIfInBounds_toArray, List.set_cons_zero, List.set_cons_succ]
            refine wpAnyH_take (i := 9) (v := ?_) rfl (by kernel_rfl) (by kernel_rfl) (by kernel_rfl) (fun _ _ _ h => h) (Or.inl ⟨by rfl, ?_⟩) (by assumption) ?_
            rotate_left
            · intro w hSw; (try dsimp only at hSw); (try go_split_ands); go_simp
              all_goals with_reducible rfl
            try simp only [Act.put, List.getElem_toArray, List.getElem_cons_zero, List.getElem_cons_succ, List.setIfInBounds_toArray, List.set_cons_zero, List.set_cons_succ]
            refine wpAnyH_take (i := 10) (v := ?_) rfl (by kernel_rfl) (by kernel_rfl) (by kernel_rfl) (fun _ _ _ h => h) (Or.inl ⟨by rfl, ?_⟩) (by assumption) ?_
            rotate_left
            · intro w hSw; (try dsimp only at hSw); (try go_split_ands); go_simp
              all_goals with_reducible rfl
            try simp only [Act.put, List.getElem_toArray, List.getElem_cons_zero, List.getElem_cons_succ, List.setIfInBounds_toArray, List.set_cons_zero, List.set_cons_succ]
            refine wpAnyH_take (i := 11) (v := ?_) rfl (by kernel_rfl) (by kernel_rfl) (by kernel_rfl) (fun _ _ _ h => h) (Or.inl ⟨by rfl, ?_⟩) (by assumption) ?_
            rotate_left
            · intro w hSw; (try dsimp only at hSw); (try go_split_ands); go_simp
              all_goals with_reducible rfl
            try simp only [Act.put, List.getElem_toArray, List.getElem_cons_zero, List.getElem_cons_succ, List.setIfInBounds_toArray, List.set_cons_zero, List.set_cons_succ]
            refine wpAnyH_take (i := 12) (v := ?_) rfl (by kernel_rfl) (by kernel_rfl) (by kernel_rfl) (fun _ _ _ h => h) (Or.inl ⟨by rfl, ?_⟩) (by assumption) ?_
            rotate_left
            · intro w hSw; (try dsimp only at hSw); (try go_split_ands); go_simp
              all_goals with_reducible rfl
            try simp only [Act.put, List.getElem_toArray, List.getElem_cons_zero, List.getElem_cons_succ, List.setIfInBounds_toArray, List.set_cons_zero, List.set_cons_succ]
            refine wpAnyH_take (i := 13) (v := ?_) rfl (by kernel_rfl) (by kernel_rfl) (by kernel_rfl) (fun _ _ _ h => h) (Or.inl ⟨by rfl, ?_⟩) (by assumption) ?_
            rotate_left
            · intro w hSw; (try dsimp only at hSw); (try go_split_ands); go_simp
              all_goals with_reducible rfl
            try simp only [Act.put, List.getElem_toArray, List.getElem_cons_zero, List.getElem_cons_succ, List.setIfInBounds_toArray, List.set_cons_zero, List.set_cons_succ]
            refine wpAnyH_take (i := 14) (v := ?_) rfl (by kernel_rfl) (by kernel_rfl) (by kernel_rfl) (fun _ _ _ h => h) (Or.inl ⟨by rfl, ?_⟩) (by assumption) ?_
            rotate_left
            · intro w hSw; (try dsimp only at hSw); (try go_split_ands); go_simp
              all_goals with_reducible rfl
            try simp only [Act.put, List.getElem_toArray, List.getElem_cons_zero, List.getElem_cons_succ, List.setIfInBounds_toArray, List.set_cons_zero, List.set_cons_succ]
            refine wpAnyH_take (i := 15) (v := ?_) rfl (by kernel_rfl) (by kernel_rfl) (by kernel_rfl) (fun _ _ _ h => h) (Or.inl ⟨by rfl, ?_⟩) (by assumption) ?_
            rotate_left
            · intro w hSw; (try dsimp only at hSw); (try go_split_ands); go_simp
              all_goals with_reducible rfl
            try simp only [Act.put, List.getElem_toArray, List.getElem_cons_zero, List.getElem_cons_succ, List.setIfInBounds_toArray, List.set_cons_zero, List.set_cons_succ]
            refine wpAnyH_take (i := 16) (v := ?_) rfl (by kernel_rfl) (by kernel_rfl) (by kernel_rfl) (fun _ _ _ h => h) (Or.inl ⟨by rfl, ?_⟩) (by assumption) ?_
            rotate_left
            · intro w hSw; (try dsimp only at hSw); (try go_split_ands); go_simp
              all_goals with_reducible rfl
            try simp only [Act.put, List.getElem_toArray, List.getElem_cons_zero, List.getElem_cons_succ, List.setIfInBounds_toArray, List.set_cons_zero, List.set_cons_succ]
            refine wpAnyH_take (i := 17) (v := ?_) rfl (by kernel_rfl) (by kernel_rfl) (by kernel_rfl) (fun _ _ _ h => h) (Or.inl ⟨by rfl, ?_⟩) (by assumption) ?_
            rotate_left
            · intro w hSw; (try dsimp only at hSw); (try go_split_ands); go_simp
              all_goals with_reducible rfl
            try simp only [Act.put, List.getElem_toArray, List.getElem_cons_zero, List.getElem_cons_succ, List.setIfInBounds_toArray, List.set_cons_zero, List.set_cons_succ]
            refine wpAnyH_take (i := 18) (v := ?_) rfl (by kernel_rfl) (by kernel_rfl) (by kernel_rfl) (fun _ _ _ h => h) (Or.inl ⟨by rfl, ?_⟩) (by assumption) ?_
            rotate_left
            · intro w hSw; (try dsimp only at hSw); (try go_split_ands); go_simp
              all_goals with_reducible rfl
            try simp only [Act.put, List.getElem_toArray, List.getElem_cons_zero, List.getElem_cons_succ, List.setIfInBounds_toArray, List.set_cons_zero, List.set_cons_succ]
            refine wpAnyH_take (i := 19) (v := ?_) rfl (by kernel_rfl) (by kernel_rfl) (by kernel_rfl) (fun _ _ _ h => h) (Or.inl ⟨by rfl, ?_⟩) (by assumption) ?_
            rotate_left
            · intro w hSw; (try dsimp only at hSw); (try go_split_ands); go_simp
              all_goals with_reducible rfl
            try simp only [Act.put, List.getElem_toArray, List.getElem_cons_zero, List.getElem_cons_succ, List.setIfInBounds_toArray, List.set_cons_zero, List.set_cons_succ]
            refine wpAnyH_ready (rs := [20]) (by kernel_rfl) (by simp) ?_
            refine AllReadyH.cons rfl (fun K6 hK6 => ?_) AllReadyH.nil
            go_simp
            refine (refIn_any (Away W0.heap.size (.slice la N lc) wd) (.mk 7 ByteArray.empty 0 (Dcs.ofL (ds.drop N))) _ (X5 - 2 + 5 * X2) (by omega) wd (fun b hb' => hb'.2.1) HD7.out).mono ?_
            rintro e w8 hp8
            obtain ⟨k8, s8, n8, a8, m8, c8, rfl, hd8, hb8⟩ := away_new HC8.out hBd hp8
            have hg8 : w8.cell? ⟨b, o + (2 * r + 1), none⟩ = some (.int .u8 c[2 * r + 1]) := (hb8.cell (p := ⟨b, o + (2 * r + 1), none⟩) (Nat.lt_of_lt_of_le hFb hwd7.size)).trans gd1
            have HDd := hide hd8
            clear hp8 hd8
            go_simp
            refine hK6.out _ _ ?_ (fun hHeld => ?_)
            · exact hg8
            clear hK6 K6
            obtain ⟨v9, w9, hr9, hh9, hb9⟩ := (HC8.out.below hb8).snoc HDd.out (by rw [List.length_take, HN.out]; omega) (Nat.le_trans hBd hb8.size)
            have hg9 : w9.cell? ⟨b, o + (2 * r + 1), none⟩ = some (.int .u8 c[2 * r + 1]) := (hb9.cell (p := ⟨b, o + (2 * r + 1), none⟩) (Nat.lt_of_lt_of_le hFb hbW0.size)).trans hg8
            have H9 := hide hh9
            have hB9 : Below W0.heap.size W0 w9 := (hWd7.trans (hb8.mono hBd)).trans hb9
            have hgA : (w8.alloc (.cells #[.int .i64 k8, .string s8, .int .i64 n8, .slice a8 m8 c8] 25)).cell? ⟨b, o + (2 * r + 1), none⟩ = some (.int .u8 c[2 * r + 1]) := Lib.cell?_alloc_some _ hg8
            clear hh9 hb9 hb8
            refine wpAnyH_ready (rs := [21]) (by kernel_rfl) (by simp) ?_
            refine AllReadyH.cons rfl (fun K6 hK6 => ?_) AllReadyH.nil
            go_simp
            refine hK6.out _ _ ?_ (fun hHeld => ?_)
            · exact hgA
            clear hK6 K6
            refine wpAnyH_ready (rs := [22]) (by kernel_rfl) (by simp) ?_
            refine AllReadyH.cons rfl (fun K6 hK6 => ?_) AllReadyH.nil
            rw [if_pos (show Region.wanted _ _ = true from rfl)]
            refine wp_append_run (.tmp 100) (.tmp 121) rfl rfl rfl rfl hr9 ?_
            refine hK6.out _ _ ?_ (fun hHeld => ?_)
            · exact hg9
            clear hK6 K6
            refine wpAnyH_take (i := 23) (v := ?_) rfl (by kernel_rfl) (by kernel_rfl) (by kernel_rfl) (fun _ _ _ h => h) (Or.inl ⟨by rfl, ?_⟩) (by assumption) ?_
            rotate_left
            · intro w hSw; (try dsimp only at hSw); (try go_split_ands); go_simp
              all_goals with_reducible rfl
            try simp only [Act.put, List.getElem_toArray, List.getElem_cons_zero, List.getElem_cons_succ, List.setIfInBounds_toArray, List.set_cons_zero, List.set_cons_succ]
            refine wpAnyH_done (by kernel_rfl) ?_ _
            have hT8 : totD (inD (X5 - 2 + 5 * X2) (.mk 7 ByteArray.empty 0 (Dcs.ofL (ds.drop N)))) = totL (ds.drop N) + 2 := by
              rw [inD, totD, totDs, totDs, totD, totDs_L, Dcs.toL_ofL]
              simp
              omega
            have HT8 := hide hT8
            clear hT8
            go_wp2_with fail
            go_roundw
            case rel => exact ⟨r + 1, ds.take N ++ [inD (X5 - 2 + 5 * X2) (.mk 7 ByteArray.empty 0 (Dcs.ofL (ds.drop N)))], by rw [show (2 * (r : Int) + 2) = 2 * ((r + 1 : Nat) : Int) by omega], by omega, H9.out, by rw [List.length_append, List.length_take, HN.out]; simp; omega, by have h5 := HT.out; have h7 := HT8.out; have h6 := totL_split ds N; rw [totL_append]; simp only [totL]; omega, hB9⟩
            case measure => simp [intOf]; omega
          · have hcut8 := H7.out.cut HN.out
            have hown : (Value.slice la N lc).ownBlock = (Value.slice la (N + K) lc).ownBlock := by cases la <;> rfl
            have hslc : IsSl wc (Away W0.heap.size (.slice la N lc) wc) (ds.drop N) u7 := HSL.out.keep fun b hb' => ⟨⟨hb'.1, hb'.2.1, by rw [hown]; exact hb'.2.2⟩, rfl⟩
            have hdl' : (ds.drop N).length = K := by rw [List.length_drop, HN.out]; omega
            have HC8 := hide hcut8
            have HS8 := hide hslc
            obtain ⟨a7, c7, rfl, hl7, -⟩ := hslc
            rw [hdl'] at HS8 HSL hl7 ⊢
            have h7K := hdl'
            have HDL := hide hdl'
            clear hcut8 hown hl7 hdl' h7K
            have hd7 : IsDc wc (Away W0.heap.size (.slice la N lc) wc) (.mk 7 ByteArray.empty 0 (Dcs.ofL (ds.drop N))) (.agg #[.int .i64 7, .string ByteArray.empty, .int .i64 0, .slice a7 K c7]) := IsDc.join (by omega) (by omega) (by decide) HS8.out
            have HD7 := hide hd7
            clear hd7
            go_wp2_with fail
            refine (refFit_any (Away W0.heap.size (.slice la N lc) wc) (.mk 7 ByteArray.empty 0 (Dcs.ofL (ds.drop N))) _ wc (fun b hb' => hb'.2.1) HD7.out).mono ?_
            rintro e w8 hp8
            obtain ⟨k8, s8, n8, a8, m8, c8, rfl, hd8, hb8⟩ := away_new HC8.out hB7 hp8
            have hT8 : totD (fitD (.mk 7 ByteArray.empty 0 (Dcs.ofL (ds.drop N)))) = totL (ds.drop N) + 2 := by
              rw [fitD, totD, totDs, totDs, totD, totDs_L, Dcs.toL_ofL]
              simp
              omega
            have HT8 := hide hT8
            obtain ⟨v9, w9, hr9, hh9, hb9⟩ := (HC8.out.below hb8).snoc hd8 (by rw [List.length_take, HN.out]; omega) (Nat.le_trans hB7 hb8.size)
            have H9 := hide hh9
            have hB9 : Below W0.heap.size W0 w9 := (hW7.trans (hb8.mono hB7)).trans hb9
            clear hp8 hd8 hb8 hb9 hh9 g0 g1 hT8
            go_wp2_with (at_builtin; refine wpList_append_run rfl (.tmp 132) (.tmp 136) rfl rfl rfl rfl hr9 ?_)
            go_roundw
            case rel => exact ⟨r + 1, ds.take N ++ [fitD (.mk 7 ByteArray.empty 0 (Dcs.ofL (ds.drop N)))], by rw [show (2 * (r : Int) + 2) = 2 * ((r + 1 : Nat) : Int) by omega], by omega, H9.out, by rw [List.length_append, List.length_take, HN.out]; simp; omega, by have h5 := HT.out; have h7 := HT8.out; have h6 := totL_split ds N; rw [totL_append]; simp only [totL]; omega, hB9⟩
            case measure => simp [intOf]; omega
          · have hcut8 := H7.out.cut HN.out
            have hown : (Value.slice la N lc).ownBlock = (Value.slice la (N + K) lc).ownBlock := by cases la <;> rfl
            have hslc : IsSl wc (Away W0.heap.size (.slice la N lc) wc) (ds.drop N) u7 := HSL.out.keep fun b hb' => ⟨⟨hb'.1, hb'.2.1, by rw [hown]; exact hb'.2.2⟩, rfl⟩
            have hdl' : (ds.drop N).length = K := by rw [List.length_drop, HN.out]; omega
            have HC8 := hide hcut8
            have HS8 := hide hslc
            obtain ⟨a7, c7, rfl, hl7, -⟩ := hslc
            rw [hdl'] at HS8 HSL hl7 ⊢
            have h7K := hdl'
            have HDL := hide hdl'
            clear hcut8 hown hl7 hdl' h7K
            have hd7 : IsDc wc (Away W0.heap.size (.slice la N lc) wc) (.mk 7 ByteArray.empty 0 (Dcs.ofL (ds.drop N))) (.agg #[.int .i64 7, .string ByteArray.empty, .int .i64 0, .slice a7 K c7]) := IsDc.join (by omega) (by omega) (by decide) HS8.out
            have HD7 := hide hd7
            clear hd7
            go_wp2_with fail
            refine (refFit_any (Away W0.heap.size (.slice la N lc) wc) (.mk 7 ByteArray.empty 0 (Dcs.ofL (ds.drop N))) _ wc (fun b hb' => hb'.2.1) HD7.out).mono ?_
            rintro e w8 hp8
            obtain ⟨k8, s8, n8, a8, m8, c8, rfl, hd8, hb8⟩ := away_new HC8.out hB7 hp8
            have hT8 : totD (fitD (.mk 7 ByteArray.empty 0 (Dcs.ofL (ds.drop N)))) = totL (ds.drop N) + 2 := by
              rw [fitD, totD, totDs, totDs, totD, totDs_L, Dcs.toL_ofL]
              simp
              omega
            have HT8 := hide hT8
            obtain ⟨v9, w9, hr9, hh9, hb9⟩ := (HC8.out.below hb8).snoc hd8 (by rw [List.length_take, HN.out]; omega) (Nat.le_trans hB7 hb8.size)
            have H9 := hide hh9
            have hB9 : Below W0.heap.size W0 w9 := (hW7.trans (hb8.mono hB7)).trans hb9
            clear hp8 hd8 hb8 hb9 hh9 g0 g1 hT8
            go_wp2_with (at_builtin; refine wpList_append_run rfl (.tmp 132) (.tmp 136) rfl rfl rfl rfl hr9 ?_)
            go_roundw
            case rel => exact ⟨r + 1, ds.take N ++ [fitD (.mk 7 ByteArray.empty 0 (Dcs.ofL (ds.drop N)))], by rw [show (2 * (r : Int) + 2) = 2 * ((r + 1 : Nat) : Int) by omega], by omega, H9.out, by rw [List.length_append, List.length_take, HN.out]; simp; omega, by have h5 := HT.out; have h7 := HT8.out; have h6 := totL_split ds N; rw [totL_append]; simp only [totL]; omega, hB9⟩
            case measure => simp [intOf]; omega
          · have hcut8 := H7.out.cut HN.out
            have hown : (Value.slice la N lc).ownBlock = (Value.slice la (N + K) lc).ownBlock := by cases la <;> rfl
            have hslc : IsSl wc (Away W0.heap.size (.slice la N lc) wc) (ds.drop N) u7 := HSL.out.keep fun b hb' => ⟨⟨hb'.1, hb'.2.1, by rw [hown]; exact hb'.2.2⟩, rfl⟩
            have hdl' : (ds.drop N).length = K := by rw [List.length_drop, HN.out]; omega
            have HC8 := hide hcut8
            have HS8 := hide hslc
            obtain ⟨a7, c7, rfl, hl7, -⟩ := hslc
            rw [hdl'] at HS8 HSL hl7 ⊢
            have h7K := hdl'
            have HDL := hide hdl'
            clear hcut8 hown hl7 hdl' h7K
            go_wp2_with fail
            refine (refRow_any (Away W0.heap.size (.slice la N lc) wc) (ds.drop N) _ wc (fun b hb' => hb'.2.1) HS8.out (by rw [HDL.out]; omega)).mono ?_
            rintro e w8 hp8
            obtain ⟨k8, s8, n8, a8, m8, c8, rfl, hd8, hb8⟩ := away_new HC8.out hB7 hp8
            have HT8 := hide (totD_row (ds.drop N))
            obtain ⟨v9, w9, hr9, hh9, hb9⟩ := (HC8.out.below hb8).snoc hd8 (by rw [List.length_take, HN.out]; omega) (Nat.le_trans hB7 hb8.size)
            have H9 := hide hh9
            have hB9 : Below W0.heap.size W0 w9 := (hW7.trans (hb8.mono hB7)).trans hb9
            clear hp8 hd8 hb8 hb9 hh9 g0 g1
            go_wp2_with (at_builtin; refine wpList_append_run rfl (.tmp 49) (.tmp 52) rfl rfl rfl rfl hr9 ?_)
            go_roundw
            case rel => exact ⟨r + 1, ds.take N ++ [rowD (ds.drop N)], by rw [show (2 * (r : Int) + 2) = 2 * ((r + 1 : Nat) : Int) by omega], by omega, H9.out, by rw [List.length_append, List.length_take, HN.out]; simp; omega, by have h5 := HT.out; have h7 := HT8.out; have h6 := totL_split ds N; rw [totL_append]; simp only [totL]; omega, hB9⟩
            case measure => simp [intOf]; omega
      · have bR := HBR.out.below hb HBR.out.lt
        obtain ⟨p0, p1, p2, p3⟩ := bR.four
        have hf := bR.frozen
        obtain ⟨la, lc, rfl, -⟩ := hheld.form rfl
        have HH := hide hheld
        have HBX := hide bR
        clear hheld bR
        go_wp2_with fail
        all_goals exact made_any (g := w.heap.size) rfl rfl (HBX.out.put4_ _ _ _ _) rfl (gen_end HZ.out hbW0 HH.out hr hdt hb rfl)
    · have bR := HBR.out.below hb HBR.out.lt
      obtain ⟨p0, p1, p2, p3⟩ := bR.four
      have hf := bR.frozen
      obtain ⟨la, lc, rfl, -⟩ := hheld.form rfl
      have HH := hide hheld
      have HBX := hide bR
      clear hheld bR
      go_wp2_with fail
      all_goals exact made_any (g := w.heap.size) rfl rfl (HBX.out.put4_ _ _ _ _) rfl (gen_end HZ.out hbW0 HH.out hr hdt hb rfl)
end Go.Proofs.Ytggbocimapdidaa
