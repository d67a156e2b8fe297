/-
  The law's Tree: some node, as choices say. Its condition: the slice reads as bytes.
-/
import Derived.Test.YtacgmmpdichlmaaGreatM02
import Derived.Test.YtacgmmpdichlmaaGreatM00
import Derived.Test.YtacgmmpdichlmaaGreatM26
import Derived.Deep.CutRange
import Derived.Deep.RegionHeld3
import Derived.IntWalk
namespace Go.Proofs.YtacgmmpdichlmaaGreat
open Go.RowKit
attribute [local go_sem ↓] Go.wp_at_zero Go.wp_at_succ

theorem Hx.cut {w W : World} {G : List Nat} {N K : Nat} {ds : List Nd} {la : Option Addr} {lc : Nat} (h : Hx w W G (.slice la (N + K) lc) ds) (hl : ds.length = N + K) : Hx w W G (.slice la N lc) (ds.take N) := by
  obtain ⟨xs, h1, h2, h3, h4⟩ := h
  rw [hl] at h1
  rcases h1.2 with ⟨hv, hn⟩ | ⟨g, cap, cur, hv, _⟩
  · obtain ⟨rfl, -, rfl⟩ : la = none ∧ N + K = 0 ∧ lc = 0 := by simpa using hv
    obtain rfl : N = 0 := by omega
    rw [List.take_zero]
    exact Hx.nil w W G
  · obtain ⟨rfl, -, rfl⟩ : la = some ⟨g, 0, none⟩ ∧ True ∧ lc = cap := by simpa using hv
    refine ⟨xs.take (N * 3), ?_, h2, h3.take N, IsRow.nil⟩
    rw [List.length_take, hl, Nat.min_eq_left (by omega)]
    exact own_take h1
theorem Hx.formL {w W : World} {G : List Nat} {n : Nat} {ds : List Nd} {v : Value} (h : Hx w W G v ds) (hl : ds.length = n) : ∃ la lc, v = .slice la n lc ∧ n ≤ lc ∧ lc ≤ maxLen ∧ (0 < n → ∃ g, la = some ⟨g, 0, none⟩) := by
  subst hl
  obtain ⟨xs, h1, h2⟩ := h
  rcases h1.2 with ⟨rfl, hn⟩ | ⟨g, cap, cur, rfl, _, _, h3, h4, _⟩
  · rw [hn]; exact ⟨none, 0, rfl, by omega, by decide, by omega⟩
  · exact ⟨_, cap, rfl, h3, h4, fun _ => ⟨g, rfl⟩⟩
/-- Some of the row's end, as Kids in a row of their own. -/
theorem Hx.kids {w W : World} {G : List Nat} {N K : Nat} {ds : List Nd} {g cap : Nat} (h : Hx w W G (.slice (some ⟨g, 0, none⟩) (N + K) cap) ds) (hl : ds.length = N + K) (hK : 0 < K) (hmax : N + K ≤ 1000000) (hG : ∀ x ∈ G, x < W.heap.size) (hw : w.heap.size ≤ W.heap.size) (c : Nat) :
    ∃ y c' w', (Builtin.append_ #[22, 22] 22 #[.slice none 0 0, .slice (some ⟨g, N * 3, none⟩) K c]).run Tryz.prog W = .ok (.slice y K c') w' ∧ IsSl w' (Fr w w' G (.slice (some ⟨g, 0, none⟩) (N + K) cap)) (ds.drop N) (.slice y K c') ∧ Below W.heap.size W w' := by
  obtain ⟨xs, h1, h2, h3, h4⟩ := h
  rw [hl] at h1
  have hdl : (ds.drop N).length = K := by rw [List.length_drop, hl]; omega
  have hd2 := h3.drop N
  have hcell : ∀ j u, (xs.drop (N * 3))[j]? = some u → W.cell? ⟨g, N * 3 + j, none⟩ = some u := fun j u hu => by
    rw [List.getElem?_drop] at hu
    have hj := (List.getElem?_eq_some_iff.1 hu).1
    rw [h1.1] at hj
    rw [h1.cellAt (N * 3 + j) hj, hu]
  obtain ⟨v', w', hr, hown, hg, hblk⟩ := append_run (World.ownsRow_nil W W.heap.size 24 3) g (N * 3) K c (xs.drop (N * 3)) (by rw [hd2.length, hdl]) hcell hd2.oneCell (by omega) hK (Nat.le_refl _)
  have hbel : Below W.heap.size W w' := (Below.refl _ W).grown hg (Nat.le_refl _) (fun r hr => by simp [Value.ownBlock] at hr)
  rw [List.nil_append, Nat.zero_add] at hown
  obtain ⟨y, c', rfl⟩ := own_form hown
  refine ⟨y, c', w', hr, ?_, hbel⟩
  rw [← hdl] at hown
  have hgl := (h1.lt g rfl).2
  have := IsSl.of_own hown (hd2.keep (fun b hb => Fr.go hbel b hb)) (fun g' e => (⟨⟨Nat.le_trans hw (hown.lt g' e).1, (hown.lt g' e).2, fun e' => by have := hG _ e'; have := (hown.lt g' e).1; omega⟩, fun e' => by
    simp only [Value.ownBlock, Option.some.injEq] at e'
    have h3 := (hown.lt g' e).1
    omega⟩ : Fr w w' G (.slice (some ⟨g, 0, none⟩) (N + K) cap) g'))
  rw [hdl] at this
  exact this
theorem Fr.st_ {w W : World} {G : List Nat} {v : Value} {g : Nat} (hg : g ∈ G) (i : Nat) (u : Value) (b : Nat) (h : Fr w W G v b) : Fr w (W.setCell ⟨g, i, none⟩ u) G v b ∧ (W.setCell ⟨g, i, none⟩ u).heap[b]? = W.heap[b]? := ⟨⟨(Nf.st g hg i u b h.1).1, h.2⟩, (Nf.st g hg i u b h.1).2⟩
theorem Px.add {w W : World} {G : List Nat} {v : Value} {ds : List Nd} {d : Nd} {c0 c1 c2 : Value} (h : Hx w W G v ds) (hd : IsNd W (Fr w W G v) d (.agg #[c0, c1, c2])) : Px w W G v ds [d] [c0, c1, c2] := by
  obtain ⟨xs, h1, h2, h3, h4⟩ := h
  exact ⟨xs, h1, h2, h3, IsRow.one hd⟩
def sumC (ds : List Nd) : Nat := (ds.map Nd.count).sum
theorem sumC_append (a b : List Nd) : sumC (a ++ b) = sumC a + sumC b := by simp [sumC]
theorem sumC_split (ds : List Nd) (n : Nat) : sumC (ds.take n) + sumC (ds.drop n) = sumC ds := by rw [← sumC_append, List.take_append_drop]
/-- Behind the Kids' append: the new node's variable, in block g. -/
def CutR (w : World) (la : Option Addr) (N K lc : Nat) (ds : List Nd) (X : Int) (tx : ByteArray) (g : Nat) (W : World) : Prop := ∃ y c, St w W [nz w.heap.size, (w.heap.size + 2, 9, #[.string ⟨#[]⟩, .string ⟨#[97]⟩, .string ⟨#[124]⟩, .string ⟨#[36, 120]⟩, .string ⟨#[46]⟩, .string ⟨#[101, 108, 115, 101]⟩, .string ⟨#[98, 48]⟩, .string ⟨#[10]⟩]), ne g X tx y K c] ∧ IsSl W (Fr w W [w.heap.size, w.heap.size + 2, g] (.slice la (N + K) lc)) (ds.drop N) (.slice y K c) ∧ Hx w W [w.heap.size, w.heap.size + 2, g] (.slice la (N + K) lc) ds
/-- What the law's Tree hands back. -/
def TreeP (w : World) (e : Ending) (w' : World) : Prop := ∃ d : Nd, d.count ≤ 1000 ∧ NdNew w d e w'
set_option maxRecDepth 100000 in
set_option maxHeartbeats 4000000 in
theorem tree_any (a : Option Addr) (m cap : Nat) (c : List Int) (w : World) (hI : IsBytes w (· < w.heap.size) a m c) : Calls Tryz.prog 8 #[.slice a m cap] w (TreeP w) := by
  have hml : m = c.length := hI.1
  have hmm : m ≤ 9223372036854775807 := hI.2.1
  subst hml
  obtain ⟨W0, hW0⟩ : ∃ W0, ((w.alloc (.cells #[.int .i64 0, .string ⟨#[]⟩, .slice none 0 0] 24)).alloc (.cells #[.int .i64 1, .string ⟨#[]⟩, .slice none 0 0] 24)).alloc (.cells #[.string ⟨#[]⟩, .string ⟨#[97]⟩, .string ⟨#[124]⟩, .string ⟨#[36, 120]⟩, .string ⟨#[46]⟩, .string ⟨#[101, 108, 115, 101]⟩, .string ⟨#[98, 48]⟩, .string ⟨#[10]⟩] 9) = W0 := ⟨_, rfl⟩
  have HS0 := hide (show St w W0 [nz w.heap.size, (w.heap.size + 2, 9, #[.string ⟨#[]⟩, .string ⟨#[97]⟩, .string ⟨#[124]⟩, .string ⟨#[36, 120]⟩, .string ⟨#[46]⟩, .string ⟨#[101, 108, 115, 101]⟩, .string ⟨#[98, 48]⟩, .string ⟨#[10]⟩])] from St.onto hW0.symm ((((St.nil w).var 24 _ (by simp)).al _).var 9 _ (by simp)))
  have HH0 := hide (show Hx w W0 [w.heap.size, w.heap.size + 2] (.slice (some ⟨w.heap.size + 1, 0, none⟩) 1 1) [.mk 1 ⟨#[]⟩ .nil] from by
    have h := (Hx.lit (w := w) (W := w.alloc (.cells #[.int .i64 0, .string ⟨#[]⟩, .slice none 0 0] 24)) (G := [w.heap.size]) (ds := [.mk 1 ⟨#[]⟩ .nil]) (Rx.cons (Nx.leaf (a := none) (cap := 0) (k := 1) (s := ⟨#[]⟩) (by omega) (by decide)) Rx.nil) ((St.nil w).var 24 _ (by simp)) rfl (by simp)).var (g := w.heap.size + 2) (by simp) (.cells #[.string ⟨#[]⟩, .string ⟨#[97]⟩, .string ⟨#[124]⟩, .string ⟨#[36, 120]⟩, .string ⟨#[46]⟩, .string ⟨#[101, 108, 115, 101]⟩, .string ⟨#[98, 48]⟩, .string ⟨#[10]⟩] 9)
    unfold Hx at h ⊢
    rw [← hW0]
    simpa using h)
  have HII := hide hI
  clear hI
  go_enter Tryz.func8, Tryz.ntmps8
  go_wp2_with fail
  clear hW0
  go_loopw [3, 5] (fun l i wr => ∃ (r : Nat) (ds : List Nd), i = .int .i64 (2 * (r : Int)) ∧ r ≤ 30 ∧ Hx w wr [w.heap.size, w.heap.size + 2] l ds ∧ ds.length ≤ r + 1 ∧ sumC ds ≤ r + 1 ∧ St w wr [nz w.heap.size, (w.heap.size + 2, 9, #[.string ⟨#[]⟩, .string ⟨#[97]⟩, .string ⟨#[124]⟩, .string ⟨#[36, 120]⟩, .string ⟨#[46]⟩, .string ⟨#[101, 108, 115, 101]⟩, .string ⟨#[98, 48]⟩, .string ⟨#[10]⟩])]) (fun _ i _ => 90 - (intOf i).toNat)
  case atStart => exact ⟨0, [.mk 1 ⟨#[]⟩ .nil], by simp, by omega, HH0.out, by simp, by simp [sumC, Nd.count, Nds.count], HS0.out⟩
  case round =>
    obtain ⟨r, ds, rfl, hr, hheld, hdl, hdt, hS⟩ := hrel
    have HS := hide hS
    have HT := hide (hS.get 1 rfl)
    have HDT := hide hdt
    clear HH0 hS hdt HS0
    by_cases h1 : 2 * r + 1 < c.length
    · by_cases h2 : r < 30
      · obtain ⟨b, o, rfl, hFb, g0, b00, b01⟩ := HII.out.get (show 2 * r < c.length by omega)
        obtain ⟨b', o', hbo, hFb', g1, b10, b11⟩ := HII.out.get (show 2 * r + 1 < c.length by omega)
        simp only [Option.some.injEq, Addr.mk.injEq, and_true] at hbo
        obtain ⟨rfl, rfl⟩ := hbo
        obtain ⟨x0, hx0⟩ : ∃ x0, c[2 * r] = x0 := ⟨_, rfl⟩
        obtain ⟨x1, hx1⟩ : ∃ x1, c[2 * r + 1] = x1 := ⟨_, rfl⟩
        rw [hx0] at g0 b00 b01
        rw [hx1] at g1 b10 b11
        clear hx0 hx1
        have hbw := HS.out.below
        replace g0 := (hbw.cell (p := ⟨b, o + 2 * r, none⟩) hFb).trans g0
        replace g1 := (hbw.cell (p := ⟨b, o + (2 * r + 1), none⟩) hFb).trans g1
        have hFb' : b < wr.heap.size := Nat.lt_of_lt_of_le hFb hbw.size
        obtain ⟨X, hX, hX0, hX1⟩ : ∃ X : Int, x0 % 40 = X ∧ 0 ≤ X ∧ X ≤ 39 := ⟨_, rfl, by omega, by omega⟩
        obtain ⟨J, hJ, hJ8⟩ : ∃ J : Nat, x1 % 8 = J ∧ J < 8 := ⟨(x1 % 8).toNat, by omega, by omega⟩
        obtain ⟨tx, htx, hts⟩ : ∃ tx : ByteArray, wr.cell? ⟨w.heap.size + 2, J, none⟩ = some (.string tx) ∧ tx.size ≤ 11 := by
          have hJc : J = 0 ∨ J = 1 ∨ J = 2 ∨ J = 3 ∨ J = 4 ∨ J = 5 ∨ J = 6 ∨ J = 7 := by omega
          rcases hJc with rfl | rfl | rfl | rfl | rfl | rfl | rfl | rfl <;> exact ⟨_, (HT.out.cell _).trans rfl, by decide⟩
        obtain ⟨K, hK1, hK2, hK3⟩ : ∃ K : Nat, min (x1 / 8 % 4) (ds.length : Int) = K ∧ K ≤ ds.length ∧ K ≤ 3 := ⟨(min (x1 / 8 % 4) (ds.length : Int)).toNat, by omega, by omega, by omega⟩
        obtain ⟨N, hN⟩ : ∃ N, ds.length = N + K := ⟨ds.length - K, by omega⟩
        rw [hN] at hK1 hK2 hdl
        rw [Int.natCast_add] at hK1
        have hK4 : (if (N : Int) + (K : Int) < x1 / 8 % 4 then (N : Int) + (K : Int) else x1 / 8 % 4) = (K : Int) := by split <;> omega
        obtain ⟨la, lc, rfl, hlc1, hlc2, hla⟩ := hheld.formL hN
        simp only [maxLen] at hlc2
        have HH := hide hheld
        have HN := hide hN
        clear hheld hN
        have m0 : x0.tmod 40 = X := by rw [Int.tmod_eq_emod_of_nonneg b00]; exact hX
        have m1 : x1.tmod 8 = (J : Int) := by rw [Int.tmod_eq_emod_of_nonneg b10]; exact hJ
        have e1 : IntKind.i64.wrap (2 * (r : Int) + 1) = 2 * (r : Int) + 1 := IntWalk.i64_in _ (by omega)
        have e2 : 2 * (r : Int) + 1 < (c.length : Int) := by omega
        have e21 : 2 * (r : Int) < (c.length : Int) := by omega
        have e20 : 0 ≤ 2 * (r : Int) + 1 := by omega
        have e22 : 0 ≤ 2 * (r : Int) := by omega
        have e3 : (2 * (r : Int) + 1).toNat = 2 * r + 1 := by omega
        have e4 : (2 * (r : Int)).toNat = 2 * r := by omega
        have e5 : IntKind.u8.wrap X = X := by unfold IntKind.wrap IntKind.signed IntKind.bits; simp; omega
        have e6 : IntKind.i64.wrap X = X := IntWalk.i64_in _ (by omega)
        have e7 : IntKind.u8.wrap (J : Int) = J := by unfold IntKind.wrap IntKind.signed IntKind.bits; simp; omega
        have e8 : (J : Int) < 8 := by omega
        have HG0 := hide g0
        have HG1 := hide g1
        have HTX := hide htx
        go_wp2_with fail
        refine wp_region_held_drew (S := fun w' => (w'.cell? ⟨b, o + 2 * r, none⟩ = some (.int .u8 x0)) ∧ (w'.cell? ⟨b, o + (2 * r + 1), none⟩ = some (.int .u8 x1)) ∧ (w'.cell? ⟨w.heap.size + 2, J, none⟩ = some (.string tx))) (by kernel_rfl) ?_ (fun hHeld => ?_)
        · exact ⟨g0, g1, htx⟩
        refine namedAny fun W3 hW3 => ?_
        have hb3 : Below wr.heap.size wr W3 := hW3 ▸ bl_dr (Below.refl _ wr)
        have HS3 := hide (HS.out.call hb3)
        have HH3 := hide (HH.out.call hb3)
        clear hHeld g0 g1 htx hW3
        have hSn := show (W3.cell? ⟨b, o + 2 * r, none⟩ = some (.int .u8 x0)) ∧ (W3.cell? ⟨b, o + (2 * r + 1), none⟩ = some (.int .u8 x1)) ∧ (W3.cell? ⟨w.heap.size + 2, J, none⟩ = some (.string tx)) from ⟨(hb3.cell (p := ⟨b, o + 2 * r, none⟩) hFb').trans HG0.out, (hb3.cell (p := ⟨b, o + (2 * r + 1), none⟩) hFb').trans HG1.out, (hb3.cell (p := ⟨w.heap.size + 2, J, none⟩) HT.out.lt).trans HTX.out⟩
        refine tC 0 (by assumption) ?_
        refine tC 1 (by assumption) ?_
        refine tC 2 (by assumption) ?_
        refine tC 3 (by assumption) ?_
        refine tC 4 (by assumption) ?_
        refine tC 5 (by assumption) ?_
        refine tC 6 (by assumption) ?_
        refine tC 7 (by assumption) ?_
        refine tC 8 (by assumption) ?_
        refine tC 9 (by assumption) ?_
        refine tC 10 (by assumption) ?_
        refine tC 11 (by assumption) ?_
        refine tC 12 (by assumption) ?_
        refine tC 13 (by assumption) ?_
        refine tC 14 (by assumption) ?_
        refine tC 15 (by assumption) ?_
        clear hSn
        have hltT : w.heap.size + 2 < wr.heap.size := HT.out.lt
        have HKS := hide (show ∀ W : World, Below wr.heap.size wr W → (W.cell? ⟨b, o + 2 * r, none⟩ = some (.int .u8 x0)) ∧ (W.cell? ⟨b, o + (2 * r + 1), none⟩ = some (.int .u8 x1)) ∧ (W.cell? ⟨w.heap.size + 2, J, none⟩ = some (.string tx)) from fun W h => ⟨(h.cell (p := ⟨b, o + 2 * r, none⟩) hFb').trans HG0.out, (h.cell (p := ⟨b, o + (2 * r + 1), none⟩) hFb').trans HG1.out, (h.cell (p := ⟨w.heap.size + 2, J, none⟩) hltT).trans HTX.out⟩)
        refine wpAnyH_ready (rs := [16]) (by kernel_rfl) (by simp) ?_
        refine AllReadyH.cons rfl (fun K hK => ?_) AllReadyH.nil
        go_simp
        refine hK.out _ _ (HKS.out _ (hb3.alloc hb3.size _)) (fun hHeld => ?_)
        clear hK K hHeld
        refine wpAnyH_ready (rs := [17]) (by kernel_rfl) (by simp) ?_
        refine AllReadyH.cons rfl (fun K hK => ?_) AllReadyH.nil
        go_simp
        refine hK.out _ _ (HKS.out _ (hb3.alloc hb3.size _)) (fun hHeld => ?_)
        clear hK K hHeld
        refine wpAnyH_done (by kernel_rfl) ?_ _
        have lv3_0 := (HS3.out.get 0 rfl).lt
        have lv3_1 := (HS3.out.get 1 rfl).lt
        refine namedQ fun W4 hW4 => ?_
        have HS4 := hide (show St w W4 [nz w.heap.size, (w.heap.size + 2, 9, #[.string ⟨#[]⟩, .string ⟨#[97]⟩, .string ⟨#[124]⟩, .string ⟨#[36, 120]⟩, .string ⟨#[46]⟩, .string ⟨#[101, 108, 115, 101]⟩, .string ⟨#[98, 48]⟩, .string ⟨#[10]⟩]), ne W3.heap.size X tx none 0 0] from St.onto hW4 (HS3.out.var 24 _ (by simp)))
        have HH4 := hide (Px.onto hW4 (HH3.out.var (g := W3.heap.size) (by simp) _))
        have hb4 : Below wr.heap.size wr W4 := hW4 ▸ hb3.alloc hb3.size _
        have g1 := (hb4.cell (p := ⟨b, o + (2 * r + 1), none⟩) hFb').trans HG1.out
        have n0 := (HS4.out.get 2 rfl).see3
        obtain ⟨NB, hNB⟩ : ∃ NB, W3.heap.size = NB := ⟨_, rfl⟩
        rw [hNB] at HS4 HH4 n0 ⊢
        clear hW4 HS HH HS3 HH3 HKS HTX HG0 hb3 hNB
        go_upto_region 8 with fail
        clear hK4 hK1 m0 m1 e1 e2 e21 e20 e22 e3 e4 e5 e6 e7 e8
        have hlcn : lc ≤ 9223372036854775807 := by omega
        go_cut [3] from 11 to 68 (fun v3 wx => v3 = .slice la (N + K) lc ∧ CutR w la N K lc ds X tx NB wx)
        case first =>
          rename_i hEx hJJ
          have HJJ := hide hJJ
          have HEX := hide hEx
          clear hJJ hEx
          obtain ⟨W5, hW5⟩ : ∃ W5, W4.drew = W5 := ⟨_, rfl⟩
          have hbd : Below W4.heap.size W4 W5 := hW5 ▸ bl_dr (Below.refl _ W4)
          have HS5 := hide (HS4.out.call hbd)
          have HH5 := hide (HH4.out.call hbd)
          have hSn : True := trivial
          have n5 := (HS5.out.get 2 rfl).see3
          refine wp_region_held_drew (S := fun _ => True) (by kernel_rfl) trivial (fun hHeld => ?_)
          rw [hW5]
          clear hHeld hW5 n0
          have ewN : IntKind.i64.wrap (N : Int) = N := IntWalk.i64_in _ (by omega)
          have hNK : (N : Int) ≤ (N : Int) + (K : Int) := by omega
          rcases Nat.eq_zero_or_pos K with hK0 | hK0
          · subst hK0
            have hdn : ds.drop N = [] := List.drop_eq_nil_of_le (by rw [HN.out]; omega)
            have HF := hide (show ∀ (y : Option Addr) (c : Nat), CutR w la N 0 lc ds X tx NB (W5.setCell ⟨NB, 2, none⟩ (.slice none 0 0)) from fun y c => ⟨none, 0, HS5.out.st 2 rfl 2 _, by rw [hdn]; exact IsSl.nil _ _, HH5.out.st (by simp) _ _⟩)
            have n1 := (HS5.out.get 2 rfl).see3
            simp only [Nat.add_zero, Int.natCast_zero, Int.add_zero] at hlc1 ⊢
            have hrn := fun a c => append_none (.slice none 0 0) a c W5 (World.ownsRow_nil W5 W5.heap.size 24 3)
            by_cases hc : lc = N
            · subst hc
              refine tC 0 (by assumption) ?_
              refine tC 2 (by assumption) ?_
              refine tC 3 (by assumption) ?_
              refine tC 4 (by assumption) ?_
              refine tC 5 (by assumption) ?_
              refine tC 6 (by assumption) ?_
              refine tC 7 (by assumption) ?_
              refine wpAnyH_ready (rs := [1]) (by kernel_rfl) (by simp) ?_
              refine AllReadyH.cons rfl (fun K hK => ?_) AllReadyH.nil
              go_simp
              refine hK.out _ _ trivial (fun hHeld => ?_)
              clear hK K hHeld
              refine wpAnyH_ready (rs := [8]) (by kernel_rfl) (by simp) ?_
              refine AllReadyH.cons rfl (fun K hK => ?_) AllReadyH.nil
              rw [if_pos (show Region.wanted _ _ = true from rfl)]
              refine wp_append_run (.tmp 50) (.tmp 56) rfl rfl rfl rfl (hrn _ _) ?_
              refine hK.out _ _ trivial (fun hHeld => ?_)
              clear hK K
              refine tC 9 (by assumption) ?_
              refine wpAnyH_ready (rs := [10]) (by kernel_rfl) (by simp) ?_
              refine AllReadyH.cons rfl (fun K hK => ?_) AllReadyH.nil
              clear hHeld
              go_simp
              refine hK.out _ _ trivial (fun hHeld => ?_)
              clear hK K hHeld
              refine wpAnyH_done (by kernel_rfl) ?_ _
              refine HJJ.out _ _ (Met.intro (HEX.out _ _ ?_))
              (repeat apply Exists.intro)
              exact ⟨⟨rfl, HF.out none 0⟩, rfl⟩
            ·
              refine tC 0 (by assumption) ?_
              refine tC 2 (by assumption) ?_
              refine tC 3 (by assumption) ?_
              refine tC 4 (by assumption) ?_
              refine tC 5 (by assumption) ?_
              refine tC 6 (by assumption) ?_
              refine tC 7 (by assumption) ?_
              refine wpAnyH_ready (rs := [1]) (by kernel_rfl) (by simp) ?_
              refine AllReadyH.cons rfl (fun K hK => ?_) AllReadyH.nil
              go_simp
              refine hK.out _ _ trivial (fun hHeld => ?_)
              clear hK K hHeld
              refine wpAnyH_ready (rs := [8]) (by kernel_rfl) (by simp) ?_
              refine AllReadyH.cons rfl (fun K hK => ?_) AllReadyH.nil
              rw [if_pos (show Region.wanted _ _ = true from rfl)]
              refine wp_append_run (.tmp 50) (.tmp 56) rfl rfl rfl rfl (hrn _ _) ?_
              refine hK.out _ _ trivial (fun hHeld => ?_)
              clear hK K
              refine tC 9 (by assumption) ?_
              refine wpAnyH_ready (rs := [10]) (by kernel_rfl) (by simp) ?_
              refine AllReadyH.cons rfl (fun K hK => ?_) AllReadyH.nil
              clear hHeld
              go_simp
              refine hK.out _ _ trivial (fun hHeld => ?_)
              clear hK K hHeld
              refine wpAnyH_done (by kernel_rfl) ?_ _
              refine HJJ.out _ _ (Met.intro (HEX.out _ _ ?_))
              (repeat apply Exists.intro)
              exact ⟨⟨rfl, HF.out none 0⟩, rfl⟩
          · obtain ⟨g, rfl⟩ := hla (by omega)
            have hGl : ∀ x ∈ [w.heap.size, w.heap.size + 2, NB], x < W5.heap.size := fun x hx => by
              have l0 : w.heap.size < W5.heap.size := (HS5.out.get 0 rfl).lt
              have l1 : w.heap.size + 2 < W5.heap.size := (HS5.out.get 1 rfl).lt
              have l2 : NB < W5.heap.size := (HS5.out.get 2 rfl).lt
              simp only [List.mem_cons, List.not_mem_nil, or_false] at hx
              omega
            obtain ⟨y7, c7, w7, hr7, hsl7, hb7⟩ := Hx.kids (G := [w.heap.size, w.heap.size + 2, NB]) HH5.out HN.out hK0 (by omega) hGl HS5.out.below.size (lc - N)
            have HS7 := hide (HS5.out.call hb7)
            have HF := hide (show CutR w (some ⟨g, 0, none⟩) N K lc ds X tx NB (w7.setCell ⟨NB, 2, none⟩ (.slice y7 K c7)) from ⟨y7, c7, HS7.out.st 2 rfl 2 _, hsl7.keep (Fr.st_ (by simp) _ _), (HH5.out.call hb7).st (by simp) _ _⟩)
            have n1 := (HS7.out.get 2 rfl).see3
            have hc : ¬ lc = N := by omega
            clear hsl7 hb7 hGl
            refine tC 0 (by assumption) ?_
            refine tC 2 (by assumption) ?_
            refine tC 3 (by assumption) ?_
            refine tC 4 (by assumption) ?_
            refine tC 5 (by assumption) ?_
            refine tC 6 (by assumption) ?_
            refine tC 7 (by assumption) ?_
            refine wpAnyH_ready (rs := [1]) (by kernel_rfl) (by simp) ?_
            refine AllReadyH.cons rfl (fun K hK => ?_) AllReadyH.nil
            go_simp
            refine hK.out _ _ trivial (fun hHeld => ?_)
            clear hK K hHeld
            refine wpAnyH_ready (rs := [8]) (by kernel_rfl) (by simp) ?_
            refine AllReadyH.cons rfl (fun K hK => ?_) AllReadyH.nil
            rw [if_pos (show Region.wanted _ _ = true from rfl)]
            refine wp_append_run (.tmp 50) (.tmp 56) rfl rfl rfl rfl hr7 ?_
            refine hK.out _ _ trivial (fun hHeld => ?_)
            clear hK K
            refine tC 9 (by assumption) ?_
            refine wpAnyH_ready (rs := [10]) (by kernel_rfl) (by simp) ?_
            refine AllReadyH.cons rfl (fun K hK => ?_) AllReadyH.nil
            clear hHeld
            go_simp
            refine hK.out _ _ trivial (fun hHeld => ?_)
            clear hK K hHeld
            refine wpAnyH_done (by kernel_rfl) ?_ _
            refine HJJ.out _ _ (Met.intro (HEX.out _ _ ?_))
            (repeat apply Exists.intro)
            exact ⟨⟨rfl, HF.out⟩, rfl⟩
        case rest =>
          obtain ⟨rfl, y, cc, hS6, hsl6, hH6⟩ := hcut
          have HS6 := hide hS6
          have hown : (Value.slice la N lc).ownBlock = (Value.slice la (N + K) lc).ownBlock := by cases la <;> rfl
          have hcu := Hx.cut hH6 HN.out
          have hKl : (ds.drop N).length = K := by rw [List.length_drop, HN.out]; omega
          have hnd : IsNd wc (Fr w wc [w.heap.size, w.heap.size + 2, NB] (.slice la N lc)) (Nd.of X tx (ds.drop N)) (.agg #[.int .i64 X, .string tx, .slice y K cc]) := IsNd.join (by omega) (by simp only [maxLen]; omega) (hsl6.keep fun b hb => ⟨⟨hb.1, by rw [hown]; exact hb.2⟩, rfl⟩)
          obtain ⟨v9, w9, hr9, hH9, hS9⟩ := (Px.add hcu hnd).snoc HS6.out rfl (by rw [List.length_take, HN.out]; simp; omega) (by simp)
          simp only [List.length_cons, List.length_nil, Nat.zero_add] at hr9
          have n6 := (HS6.out.get 2 rfl).see3
          have ewN : IntKind.i64.wrap (N : Int) = N := IntWalk.i64_in _ (by omega)
          have hNK : (N : Int) ≤ (N : Int) + (K : Int) := by omega
          have hNl : (N : Int) ≤ (lc : Int) := by omega
          have HH9 := hide (hH9.fewer (G' := [w.heap.size, w.heap.size + 2]) (by simp))
          have HS9 := hide (hS9.cut 2 rfl)
          have hsum : sumC (ds.take N ++ [Nd.of X tx (ds.drop N)]) ≤ r + 1 + 1 := by
            have h5 := HDT.out
            have h6 := sumC_split ds N
            rw [sumC_append]
            have h7 : sumC [Nd.of X tx (ds.drop N)] = 1 + sumC (ds.drop N) := by simp [sumC, Nd.count_of]
            omega
          have HSM := hide hsum
          have hlen9 : (ds.take N ++ [Nd.of X tx (ds.drop N)]).length ≤ r + 1 + 1 := by
            rw [List.length_append, List.length_take, HN.out]; simp; omega
          have HLN := hide hlen9
          clear hcu hnd hown hsl6 hH6 hS6 hH9 hS9 hsum hlen9 hKl g1 HS4 HH4 n0
          go_wp2_with (at_builtin; refine wpList_append_run rfl _ _ (by rfl) (by rfl) (by rfl) (by rfl) hr9 ?_)
          go_roundw
          case rel => exact ⟨r + 1, _, by rw [show (2 * (r : Int) + 2) = 2 * ((r + 1 : Nat) : Int) by omega], by omega, HH9.out, HLN.out, HSM.out, HS9.out⟩
          case measure => simp [intOf]; omega
      ·
        obtain ⟨la, lc, rfl, -⟩ := hheld.formL rfl
        have p0 := (HS.out.get 0 rfl).see3
        have HH := hide hheld
        have hr60 : ¬ (2 * (r : Int) < 60) ∨ ¬ (2 * (r : Int) + 1 < (c.length : Int)) := by omega
        clear hheld HT
        go_wp2_with fail
        all_goals
          refine namedPost fun W5 hW5 => ?_
          have HS5 := hide (St.onto hW5 (HS.out.st3 0 rfl _ _ _))
          have HH5 := hide (Px.onto hW5 (Px.st3 HH.out (by simp) _ _ _))
          exact ended_n rfl rfl (HS5.out.get 0 rfl) ⟨Nd.of 10 ⟨#[]⟩ ds, by rw [Nd.count_of]; have := HDT.out; unfold sumC at this; omega, _, _, _, _, _, rfl, (Px.node HH5.out (by omega) (by decide)).out, HS5.out.below⟩
    ·
      obtain ⟨la, lc, rfl, -⟩ := hheld.formL rfl
      have p0 := (HS.out.get 0 rfl).see3
      have HH := hide hheld
      have hr60 : ¬ (2 * (r : Int) < 60) ∨ ¬ (2 * (r : Int) + 1 < (c.length : Int)) := by omega
      clear hheld HT
      go_wp2_with fail
      all_goals
        refine namedPost fun W5 hW5 => ?_
        have HS5 := hide (St.onto hW5 (HS.out.st3 0 rfl _ _ _))
        have HH5 := hide (Px.onto hW5 (Px.st3 HH.out (by simp) _ _ _))
        exact ended_n rfl rfl (HS5.out.get 0 rfl) ⟨Nd.of 10 ⟨#[]⟩ ds, by rw [Nd.count_of]; have := HDT.out; unfold sumC at this; omega, _, _, _, _, _, rfl, (Px.node HH5.out (by omega) (by decide)).out, HS5.out.below⟩
end Go.Proofs.YtacgmmpdichlmaaGreat
