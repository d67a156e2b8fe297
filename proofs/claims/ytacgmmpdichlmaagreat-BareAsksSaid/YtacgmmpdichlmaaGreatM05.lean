/-
  The reference's With: a node with another one at a place. Its conditions: the values read as nodes; the slice reads as numbers.
-/
import Derived.Test.YtacgmmpdichlmaaGreatM03
import Derived.Test.YtacgmmpdichlmaaGreatM02
namespace Go.Proofs.YtacgmmpdichlmaaGreat
open Go.RowKit
attribute [local go_sem ↓] Go.wp_at_zero Go.wp_at_succ

/-- What At, or With, hands back, one by one. -/
theorem AtP.form2 {F : World → Nat → Prop} {w w' : World} {o : Option Nd} {e : Ending} (h : AtP F w o e w') : ∃ (k : Int) (s : ByteArray) (y : Option Addr) (m c : Nat), e = .returned (.tuple #[.agg #[.int .i64 k, .string s, .slice y m c], .bool o.isSome]) ∧ (∀ d, o = some d → IsNd w' (F w') d (.agg #[.int .i64 k, .string s, .slice y m c])) ∧ Below w.heap.size w w' := by
  obtain ⟨h1, h2⟩ := h
  cases o with
  | none => exact ⟨_, _, _, _, _, h1, (fun d h => by cases h), h2⟩
  | some d =>
    obtain ⟨k, s, y, m, c, rfl, hn⟩ := h1
    exact ⟨k, s, y, m, c, rfl, (fun d' h => by cases h; exact hn), h2⟩
theorem IsRow.set {w : World} {F : Nat → Prop} {m : Nd} {u0 u1 u2 : Value} (hm : IsNd w F m (.agg #[u0, u1, u2])) : ∀ {ds : List Nd} {xs : List Value} {j : Nat}, IsRow w F xs ds → IsRow w F (((xs.set (j * 3) u0).set (j * 3 + 1) u1).set (j * 3 + 2) u2) (ds.set j m)
  | [], xs, j, h => by
    rw [h.out_nil]
    simpa using IsRow.nil
  | d :: ds, xs, 0, h => by
    obtain ⟨c0, c1, c2, ys, rfl, h1, h2⟩ := h.out
    simp only [Nat.zero_mul, Nat.zero_add, List.set_cons_zero, List.set_cons_succ]
    exact IsRow.cons.2 ⟨hm, h2⟩
  | d :: ds, xs, j + 1, h => by
    obtain ⟨c0, c1, c2, ys, rfl, h1, h2⟩ := h.out
    rw [show (j + 1) * 3 = j * 3 + 1 + 1 + 1 by omega, show j * 3 + 1 + 1 + 1 + 1 = (j * 3 + 1) + 1 + 1 + 1 by omega, show j * 3 + 1 + 1 + 1 + 2 = (j * 3 + 2) + 1 + 1 + 1 by omega]
    simp only [List.set_cons_succ]
    exact IsRow.cons.2 ⟨h1, IsRow.set hm h2⟩
theorem set3_get {xs : List Value} {cur : Array Value} {n i : Nat} {u0 u1 u2 : Value} (hn : xs.length = n) (h : ∀ k, k < n → cur[k]? = xs[k]?) : ∀ (k : Nat) (u : Value), (((xs.set i u0).set (i + 1) u1).set (i + 2) u2)[k]? = some u → (((cur.setIfInBounds i u0).setIfInBounds (i + 1) u1).setIfInBounds (i + 2) u2)[k]? = some u := by
  intro k u hu
  have hk : k < n := by
    have := (List.getElem?_eq_some_iff.1 hu).1
    simpa [hn] using this
  have hc := h k hk
  have hcs : k < cur.size := by
    rw [List.getElem?_eq_getElem (by omega)] at hc
    exact (Array.getElem?_eq_some_iff.1 hc).1
  rw [← hu]
  simp only [Array.getElem?_setIfInBounds, List.getElem?_set, List.length_set, Array.size_setIfInBounds]
  by_cases h2 : i + 2 = k
  · rw [if_pos h2, if_pos h2, if_pos (by omega), if_pos (by omega)]
  · rw [if_neg h2, if_neg h2]
    by_cases h1 : i + 1 = k
    · rw [if_pos h1, if_pos h1, if_pos (by omega), if_pos (by omega)]
    · rw [if_neg h1, if_neg h1]
      by_cases h0 : i = k
      · rw [if_pos h0, if_pos h0, if_pos (by omega), if_pos (by omega)]
      · rw [if_neg h0, if_neg h0, hc]
/-- A row that a call of append has just made of Kids that are there. -/
theorem kids_app {W : World} {F : Nat → Prop} {ds : List Nd} {b o c : Nat} (h : IsSl W F ds (.slice (some ⟨b, o, none⟩) ds.length c)) (hpos : 0 < ds.length) (hmax : ds.length ≤ 1000000) :
    ∃ g c' w' cur xs, (Builtin.append_ #[22, 22] 22 #[.slice none 0 0, .slice (some ⟨b, o, none⟩) ds.length c]).run Tryz.prog W = .ok (.slice (some ⟨g, 0, none⟩) ds.length c') w' ∧ Below W.heap.size W w' ∧ W.heap.size ≤ g ∧ Blk w' g 24 cur ∧ IsRow W F xs ds ∧ (∀ k, k < ds.length * 3 → cur[k]? = xs[k]?) := by
  obtain ⟨a, cap, hv, hl, hk⟩ := h
  cases hv
  obtain ⟨b', o', ha, hb, hn⟩ := hk (by omega)
  cases ha
  obtain ⟨xs, hx, hc⟩ := hn.row
  rw [Nds.toL_ofL] at hx
  obtain ⟨v', w', hr, hown, hg, hblk⟩ := append_run (World.ownsRow_nil W W.heap.size 24 3) b o ds.length c xs hx.length hc hx.oneCell (by omega) hpos (Nat.le_refl _)
  have hbel : Below W.heap.size W w' := (Below.refl _ W).grown hg (Nat.le_refl _) (fun r hr => by simp [Value.ownBlock] at hr)
  rw [List.nil_append, Nat.zero_add] at hown
  have hcell := hown
  rcases hown.2 with ⟨rfl, hn⟩ | ⟨g, cap', cur, rfl, hge, hgb, hnc, hcm, _⟩
  · omega
  · have hbk : Blk w' g 24 cur := hgb
    exact ⟨g, cap', w', cur, xs, hr, hbel, hge, hbk, hx, fun k hk => by rw [← hbk.cell k, hcell.cellAt k hk]⟩

theorem path_tail {w : World} {F : Nat → Prop} {pb po n pc : Nat} {i : Int} {p : List Int} (h : IsPath w F (.slice (some ⟨pb, po, none⟩) n pc) (i :: p)) : IsPath w F (.slice (if pc = 1 then some ⟨pb, po, none⟩ else some ⟨pb, po + 1, none⟩) p.length (pc - 1)) p := by
  obtain ⟨a, c, hv, hl, hc⟩ := h
  cases hv
  obtain ⟨b, o, ha, hb, hg⟩ := hc (by simp)
  cases ha
  simp only [List.length_cons, maxLen] at hl
  refine ⟨_, _, rfl, by simp only [maxLen]; omega, fun hne => ⟨pb, po + 1, ?_, hb, fun k x hx => ?_⟩⟩
  · have := List.length_pos_iff.2 hne
    rw [if_neg (by omega)]
  · have := hg (k + 1) x (by simpa using hx)
    rwa [show po + (k + 1) = po + 1 + k by omega] at this
/-- Blocks of F, and those that are new. -/
def Fn (F : Nat → Prop) (B : Nat) (W : World) (b : Nat) : Prop := F b ∨ (B ≤ b ∧ b < W.heap.size)
set_option maxRecDepth 100000 in
set_option maxHeartbeats 8000000 in
theorem refWith_any {F : Nat → Prop} (p : List Int) : ∀ (d x : Nd) (v u z : Value) (w : World), IsNd w F d v → d.count ≤ 900000 → IsPath w (· < w.heap.size) u p → IsNd w F x z → (∀ b, F b → b < w.heap.size) →
    Calls Tryz.prog 47 #[v, u, z] w (AtP (Fn F w.heap.size) w (withN x p d)) := by
  induction p with
  | nil =>
    intro d x v u z w hD hcnt hP hX hF
    obtain ⟨k0, s0, y0, m0, c0, rfl⟩ := hD.form
    obtain ⟨kx, sx, yx, mx, cx, rfl⟩ := hX.form
    obtain ⟨pa, pc, rfl, -, -⟩ := hP
    have HX := hide hX
    have HF := hide hF
    clear hD hX hF
    rw [withN]
    go_enter Tryz.func47, Tryz.ntmps47
    go_wp2_with fail
    refine namedPost fun W5 hW5 => ?_
    have HS5 := onS hW5 (St.nil w).va.va.va
    clear hW5
    exact ended_nb_ rfl rfl rfl (HS5.out.get 2 rfl) ⟨⟨_, _, _, _, _, rfl, IsNd.keep (fun b hb => ⟨Or.inl hb, HS5.out.below.block b (HF.out b hb)⟩) _ _ HX.out⟩, HS5.out.below⟩
  | cons i p ih =>
    intro d x v u z w hD hcnt hP hX hF
    obtain ⟨k0, s0, ks⟩ := d
    obtain ⟨yv, rfl, hk, hs, hsl⟩ := hD.split
    have HSL := hide hsl
    obtain ⟨a1, c1, rfl, hm1, -⟩ := hsl
    obtain ⟨kx, sx, yx, mx, cx, rfl⟩ := hX.form
    obtain ⟨pa, pc, rfl, hpl, -⟩ := id hP
    obtain ⟨pb, po, rfl, hpb, gp⟩ := hP.get (q := 0) (by simp)
    simp only [List.length_cons, maxLen] at hpl
    simp only [List.getElem_cons_zero, Nat.add_zero] at gp
    simp only [maxLen] at hm1
    have hlc := len_count ks
    rw [count_mk] at hcnt
    have hl9 : ks.toL.length ≤ 900000 := by omega
    have HP := hide hP
    have HX := hide hX
    have HF := hide hF
    have HIH := hide ih
    rw [withN]
    have HCM := hide (fun d h => Nat.le_trans (count_mem (ks := ks) (d := d) h) (show ks.count ≤ 900000 by omega))
    obtain ⟨ds, hds⟩ : ∃ ds, ks.toL = ds := ⟨_, rfl⟩
    rw [hds] at HSL HCM hm1 hl9 ⊢
    rw [List.length_cons]
    clear hD hP hX hF ih hlc hcnt hds
    by_cases hin : 0 ≤ i ∧ i.toNat < ds.length
    · obtain ⟨j, rfl⟩ : ∃ j : Nat, i = j := ⟨i.toNat, by omega⟩
      have hj : j < ds.length := by omega
      have hji : ¬ (ds.length : Int) ≤ (j : Int) := by omega
      have hjj : (j : Int) < (ds.length : Int) := by omega
      have hj0 : ¬ (j : Int) < 0 := by omega
      have h1p : (1 : Int) ≤ (p.length : Int) + 1 := by omega
      rw [kidI_ofNat, List.getElem?_eq_getElem hj, Option.bind_some, Int.toNat_natCast]
      obtain ⟨b, o, cap2, k1, s1, y1, m1, e1, hv, hFb, g0, g1, g2, hc⟩ := HSL.out.kid hj
      cases hv
      have HC := hide hc
      have hb1 := HF.out b hFb
      clear hc hin
      obtain ⟨O, hO⟩ : ∃ O, withN x p ds[j] = O := ⟨_, rfl⟩
      have HO := hide hO
      rw [hO]
      clear hO
      obtain ⟨W1, hW1⟩ : ∃ W1, ((w.alloc (.cells #[.int .i64 k0, .string s0, .slice (some ⟨b, o, none⟩) ds.length c1] 24)).alloc (.cells #[.int .i64 kx, .string sx, .slice yx mx cx] 24)).alloc (.cells #[.int .i64 0, .string ⟨#[]⟩, .slice none 0 0] 24) = W1 := ⟨_, rfl⟩
      have HS1 := hide (show St w W1 [ne w.heap.size k0 s0 (some ⟨b, o, none⟩) ds.length c1, ne (w.heap.size + 1) kx sx yx mx cx, nz (w.heap.size + 1 + 1)] from St.onto hW1.symm ((((St.nil w).var 24 _ (by simp)).var 24 _ (by simp)).var 24 _ (by simp)))
      have gp1 := (HS1.out.below.cell (p := ⟨pb, po, none⟩) hpb).trans gp
      have p0 := (HS1.out.get 0 rfl).see3
      go_enter Tryz.func47, Tryz.ntmps47
      go_wp2_with fail
      clear hW1 gp1 p0
      have lv0 := (HS1.out.get 0 rfl).lt
      have lv1 := (HS1.out.get 1 rfl).lt
      have LV2 := hide (HS1.out.get 2 rfl).lt
      have HG := hide (And.intro ((HS1.out.below.cell (p := ⟨b, o + j * 3, none⟩) hb1).trans g0) (And.intro ((HS1.out.below.cell (p := ⟨b, o + j * 3 + 1, none⟩) hb1).trans g1) ((HS1.out.below.cell (p := ⟨b, o + j * 3 + 2, none⟩) hb1).trans g2)))
      have hbW : b < W1.heap.size := Nat.lt_of_lt_of_le hb1 HS1.out.below.size
      have HKS := hide (show ∀ W : World, Below W1.heap.size W1 W → (W.cell? ⟨w.heap.size, 2, none⟩ = some (.slice (some ⟨b, o, none⟩) ds.length c1) ∧ W.cell? ⟨b, o + j * 3, none⟩ = some (.int .i64 k1) ∧ W.cell? ⟨b, o + j * 3 + 1, none⟩ = some (.string s1) ∧ W.cell? ⟨b, o + j * 3 + 2, none⟩ = some (.slice y1 m1 e1) ∧ W.cell? ⟨w.heap.size + 1, 0, none⟩ = some (.int .i64 kx) ∧ W.cell? ⟨w.heap.size + 1, 1, none⟩ = some (.string sx) ∧ W.cell? ⟨w.heap.size + 1, 2, none⟩ = some (.slice yx mx cx)) from fun W h => ⟨(h.cell (p := ⟨w.heap.size, 2, none⟩) lv0).trans ((HS1.out.get 0 rfl).cell 2), (h.cell (p := ⟨b, o + j * 3, none⟩) hbW).trans HG.out.1, (h.cell (p := ⟨b, o + j * 3 + 1, none⟩) hbW).trans HG.out.2.1, (h.cell (p := ⟨b, o + j * 3 + 2, none⟩) hbW).trans HG.out.2.2, (h.cell (p := ⟨w.heap.size + 1, 0, none⟩) lv1).trans ((HS1.out.get 1 rfl).cell 0), (h.cell (p := ⟨w.heap.size + 1, 1, none⟩) lv1).trans ((HS1.out.get 1 rfl).cell 1), (h.cell (p := ⟨w.heap.size + 1, 2, none⟩) lv1).trans ((HS1.out.get 1 rfl).cell 2)⟩)
      clear g0 g1 g2 gp
      refine rgC (fun W => W.cell? ⟨w.heap.size, 2, none⟩ = some (.slice (some ⟨b, o, none⟩) ds.length c1) ∧ W.cell? ⟨b, o + j * 3, none⟩ = some (.int .i64 k1) ∧ W.cell? ⟨b, o + j * 3 + 1, none⟩ = some (.string s1) ∧ W.cell? ⟨b, o + j * 3 + 2, none⟩ = some (.slice y1 m1 e1) ∧ W.cell? ⟨w.heap.size + 1, 0, none⟩ = some (.int .i64 kx) ∧ W.cell? ⟨w.heap.size + 1, 1, none⟩ = some (.string sx) ∧ W.cell? ⟨w.heap.size + 1, 2, none⟩ = some (.slice yx mx cx)) (HKS.out _ (bl_dr (Below.refl _ W1))) fun W2 hW2 => ?_
      have hb12 : Below W1.heap.size W1 W2 := hW2 ▸ bl_dr (Below.refl _ W1)
      have HS2 := hide (St.onto hW2 HS1.out.dr)
      have hSn := HKS.out _ hb12
      have HFB := hide (fun (q : Nat) (hq : F q) => Nat.lt_of_lt_of_le (HF.out q hq) HS2.out.below.size)
      clear hW2 HS1 HG
      refine tC 0 hSn ?_
      refine tC 1 hSn ?_
      refine tC 2 hSn ?_
      refine tC 3 hSn ?_
      refine tC 4 hSn ?_
      refine tC 5 hSn ?_
      refine tC 6 hSn ?_
      refine tC 7 hSn ?_
      generalize hPT : (if pc = 1 then some (⟨pb, po, none⟩ : Addr) else some ⟨pb, po + 1, none⟩) = PT
      have HPT := hide (show IsPath w (· < w.heap.size) (.slice PT p.length (pc - 1)) p from hPT ▸ path_tail HP.out)
      clear hPT
      clear hSn
      refine rY2 8 12 (fun K hK => ?_) (fun K hK => ?_)
      ·
        go_simp
        refine (HO.out ▸ HIH.out ds[j] x _ _ _ W2 (IsNd.keep (fun q hq => ⟨hq, HS2.out.below.block q (HF.out q hq)⟩) _ _ HC.out) (HCM.out _ (List.getElem_mem hj)) (HPT.out.below HS2.out.below) (IsNd.keep (fun q hq => ⟨hq, HS2.out.below.block q (HF.out q hq)⟩) _ _ HX.out) (fun q hq => Nat.lt_of_lt_of_le (HF.out q hq) HS2.out.below.size)).mono ?_
        intro e w3 hat3
        obtain ⟨k5, s5, y5, m5, c5, rfl, hn3, hb3⟩ := hat3.form2
        have HS3 := hide (HS2.out.call hb3)
        have hz32 := hb3.size
        have hb13 := hb12.trans (hb3.mono hb12.size)
        have hSn := HKS.out _ hb13
        clear hat3 HS2
        go_simp
        refine onK hK hSn ?_
        clear hK K
        refine tC 9 hSn ?_
        refine tC 10 hSn ?_
        refine tC 11 hSn ?_
        clear hSn
        refine rY 12 fun K hK => ?_
        go_simp
        refine onW hK (HKS.out _ (bl_al hb13 _)) fun W4 hW4 => ?_
        clear hK K
        have HS4 := onS hW4 HS3.out.va
        have hb14 : Below W1.heap.size W1 W4 := hW4 ▸ bl_al hb13 _
        have hz4 : W4.heap.size = w3.heap.size + 1 := by rw [hW4]; simp
        have hk4 : ∀ q, q < w3.heap.size → W4.heap[q]? = w3.heap[q]? := fun q hq => hW4 ▸ Below.heap_alloc w3 _ q hq
        have hg3 := hb13.size
        clear hW4 HS3
        refine rY 13 fun K hK => ?_
        have p3 := (HS4.out.get 3 rfl).see3
        go_simp
        refine onW hK (HKS.out _ (bl_st3 hb14 hg3 _ _ _)) fun Wf hWf => ?_
        clear hK K p3
        have HSf := onS hWf (HS4.out.st3 3 rfl _ _ _)
        have HN := hide (show ∀ m, O = some m → IsNd Wf (fun q => (F q ∨ (W1.heap.size ≤ q ∧ q < Wf.heap.size)) ∧ q ≠ w3.heap.size) m (.agg #[.int .i64 k5, .string s5, .slice y5 m5 c5]) from fun m hm => IsNd.keep (fun q hq => by
          have hq2 := (show F q ∨ (W2.heap.size ≤ q ∧ q < w3.heap.size) from hq)
          have hq4 : q < w3.heap.size := hq2.elim (fun h => Nat.lt_of_lt_of_le (HFB.out q h) hz32) (fun h => h.2)
          have hz2 := hb12.size
          refine ⟨⟨hq2.imp id fun h => ⟨by omega, by rw [hWf]; simp; omega⟩, by omega⟩, ?_⟩
          rw [hWf]
          exact (heap_st3 (by omega) _ _ _).trans (hk4 q hq4)) _ _ (hn3 m hm))
        have hbf : Below W1.heap.size W1 Wf := hWf ▸ bl_st3 hb14 hg3 _ _ _
        have hgf := hg3
        have hSn := HKS.out Wf hbf
        clear hWf HS4 hn3 hb3 hk4
        refine tC 14 hSn ?_
        clear hSn
        refine wpAnyH_done (by kernel_rfl) ?_ _
        have HSLf := hide (HSL.out.keep fun q hq => ⟨hq, HSf.out.below.block q (HF.out q hq)⟩)
        clear HKS HIH
        cases O with
        | none =>
          have q2 := (HSf.out.get 2 rfl).see3
          go_wp2_with fail
          exact ended_nb_ rfl rfl rfl ((HSf.out.st3 2 rfl _ _ _).get 2 rfl) ⟨rfl, (HSf.out.st3 2 rfl _ _ _).below⟩
        | some m =>
          have HM := hide (HN.out m rfl)
          obtain ⟨g4, c4, w4, cur, xs, hr4, hb4, hg4, hbk4, hx4, hcur4⟩ := kids_app HSLf.out (by omega) (by omega)
          clear HSLf HN
          have HS4 := hide (HSf.out.call hb4)
          have HB4 := hide hb4
          have HBK4 := hide hbk4
          have HX4 := hide hx4
          have HCU := hide hcur4
          have hlx := hx4.length
          have hcs : ∀ k, k < ds.length * 3 → ∃ t, w4.cell? ⟨g4, k, none⟩ = some t := fun k hk => by
            rw [hbk4.cell k, hcur4 k hk, List.getElem?_eq_getElem (by omega)]
            exact ⟨_, rfl⟩
          obtain ⟨t0, e0⟩ := hcs (j * 3) (by omega)
          obtain ⟨t1, e1⟩ := hcs (j * 3 + 1) (by omega)
          obtain ⟨t2, e2⟩ := hcs (j * 3 + 2) (by omega)
          have f0 := hbk4.frozen (j * 3)
          have f1 := hbk4.frozen (j * 3 + 1)
          have f2 := hbk4.frozen (j * 3 + 2)
          have p0 := (HSf.out.get 0 rfl).see3
          have l1 := (HSf.out.get 1 rfl).lt
          have l2 := (HSf.out.get 2 rfl).lt
          have l3 := (HSf.out.get 3 rfl).lt
          have lv2 : w.heap.size + 1 + 1 < W1.heap.size := LV2.out
          clear hcs hb4 hbk4 hx4 hcur4
          have r0 := (HS4.out.get 0 rfl).see3
          have r2 := (HS4.out.get 2 rfl).see3
          have r3 := (HS4.out.get 3 rfl).see3
          go_wp2_with (at_builtin; refine wpList_append_run rfl _ _ (by rfl) (by rfl) (by rfl) (by rfl) hr4 ?_)
          clear hr4 p0 r0 r2 r3 e0 e1 e2 f0 f1 f2
          refine namedPost fun W6 hW6 => ?_
          have hbk4 := HBK4.out
          have hng : w.heap.size + 1 + 1 ≠ g4 := by omega
          have hRB : Blk W6 (w.heap.size + 1 + 1) 24 #[.int .i64 k0, .string s0, .slice (some ⟨g4, 0, none⟩) ds.length c4] := by
            rw [hW6]
            exact ((((((HS4.out.get 2 rfl).far hng _).far hng _).far hng _).set_ 0 _).set_ 1 _).set_ 2 _
          have hGB : Blk W6 g4 24 (((cur.setIfInBounds (j * 3) (.int .i64 k5)).setIfInBounds (j * 3 + 1) (.string s5)).setIfInBounds (j * 3 + 2) (.slice y5 m5 c5)) := by
            rw [hW6]
            exact (((((hbk4.set_ (j * 3) _).set_ (j * 3 + 1) _).set_ (j * 3 + 2) _).far hng.symm _).far hng.symm _).far hng.symm _
          have hb6 : Below w.heap.size w W6 := by
            rw [hW6]
            exact bl_st3 (bl_st (bl_st (bl_st HS4.out.below (by omega) _ _) (by omega) _ _) (by omega) _ _) (by omega) _ _ _
          have hz6 : w4.heap.size ≤ W6.heap.size := by rw [hW6]; simp
          have hlg := hbk4.lt
          have hlg2 := HB4.out.size
          have hk6 : ∀ q, q ≠ g4 → q ≠ w.heap.size + 1 + 1 → W6.heap[q]? = w4.heap[q]? := fun q h1 h2 => by
            rw [hW6]
            exact (heap_st3 h2 _ _ _).trans (heap_sts h1 _ _ _ _ _ _)
          have hx6 : IsRow W6 (Fn F w.heap.size W6) xs ds := HX4.out.keep fun q hq => ⟨Or.inl hq, (hb6.block q (HF.out q hq)).trans (HSf.out.below.block q (HF.out q hq)).symm⟩
          have hm6 : IsNd W6 (Fn F w.heap.size W6) m (.agg #[.int .i64 k5, .string s5, .slice y5 m5 c5]) := IsNd.keep (fun q hq => by
            have hqf : q < Wf.heap.size := hq.1.elim (fun h => Nat.lt_of_lt_of_le (HF.out q h) HSf.out.below.size) (fun h => h.2)
            have hqr : q ≠ w.heap.size + 1 + 1 := hq.1.elim (fun h => by have := HF.out q h; omega) (fun h => by omega)
            exact ⟨hq.1.imp id fun h => ⟨by omega, by omega⟩, (hk6 q (by omega) hqr).trans (HB4.out.block q hqf)⟩) _ _ HM.out
          have hset : (ds.set j m).length = ds.length := List.length_set
          have hsl6 : IsSl W6 (Fn F w.heap.size W6) (ds.set j m) (.slice (some ⟨g4, 0, none⟩) ds.length c4) := ⟨some ⟨g4, 0, none⟩, c4, by rw [hset], by rw [hset]; simp only [maxLen]; omega, fun _ => ⟨g4, 0, rfl, Or.inr ⟨by omega, by omega⟩, IsRow.nds (fun q u hu => by
            rw [Nat.zero_add, hGB.cell q]
            exact set3_get hlx HCU.out q u hu) (IsRow.set hm6 hx6)⟩⟩
          exact ended_nb_ rfl rfl rfl hRB ⟨⟨_, _, _, _, _, rfl, IsNd.join hk hs hsl6⟩, hb6⟩
      ·
        go_simp
        refine onW hK (HKS.out _ (bl_al hb12 _)) fun W3 hW3 => ?_
        clear hK K
        have HS3 := onS hW3 HS2.out.va
        have hb13 : Below W1.heap.size W1 W3 := hW3 ▸ bl_al hb12 _
        have hz3 : W3.heap.size = W2.heap.size + 1 := by rw [hW3]; simp
        have hg2 := hb12.size
        clear hW3 HS2
        refine rY 8 fun K hK => ?_
        go_simp
        refine (HO.out ▸ HIH.out ds[j] x _ _ _ W3 (IsNd.keep (fun q hq => ⟨hq, HS3.out.below.block q (HF.out q hq)⟩) _ _ HC.out) (HCM.out _ (List.getElem_mem hj)) (HPT.out.below HS3.out.below) (IsNd.keep (fun q hq => ⟨hq, HS3.out.below.block q (HF.out q hq)⟩) _ _ HX.out) (fun q hq => Nat.lt_of_lt_of_le (HF.out q hq) HS3.out.below.size)).mono ?_
        intro e w4 hat4
        obtain ⟨k5, s5, y5, m5, c5, rfl, hn4, hb4⟩ := hat4.form2
        have HS4 := hide (HS3.out.call hb4)
        have hb14 := hb13.trans (hb4.mono hb13.size)
        have hSn := HKS.out _ hb14
        clear hat4 HS3
        go_simp
        refine onK hK hSn ?_
        clear hK K
        refine tC 9 hSn ?_
        refine tC 10 hSn ?_
        refine tC 11 hSn ?_
        clear hSn
        refine rY 13 fun K hK => ?_
        have p3 := (HS4.out.get 3 rfl).see3
        go_simp
        refine onW hK (HKS.out _ (bl_st3 hb14 hg2 _ _ _)) fun Wf hWf => ?_
        clear hK K p3
        have HSf := onS hWf (HS4.out.st3 3 rfl _ _ _)
        have HN := hide (show ∀ m, O = some m → IsNd Wf (fun q => (F q ∨ (W1.heap.size ≤ q ∧ q < Wf.heap.size)) ∧ q ≠ W2.heap.size) m (.agg #[.int .i64 k5, .string s5, .slice y5 m5 c5]) from fun m hm => IsNd.keep (fun q hq => by
          have hq2 := (show F q ∨ (W3.heap.size ≤ q ∧ q < w4.heap.size) from hq)
          have hq4 : q ≠ W2.heap.size := hq2.elim (fun h => Nat.ne_of_lt (HFB.out q h)) (fun h => by omega)
          refine ⟨⟨hq2.imp id fun h => ⟨by omega, by rw [hWf]; simp; omega⟩, hq4⟩, ?_⟩
          rw [hWf]
          exact heap_st3 hq4 _ _ _) _ _ (hn4 m hm))
        have hbf : Below W1.heap.size W1 Wf := hWf ▸ bl_st3 hb14 hg2 _ _ _
        have hgf := hg2
        have hSn := HKS.out Wf hbf
        clear hWf HS4 hn4 hb4
        refine tC 14 hSn ?_
        clear hSn
        refine wpAnyH_done (by kernel_rfl) ?_ _
        have HSLf := hide (HSL.out.keep fun q hq => ⟨hq, HSf.out.below.block q (HF.out q hq)⟩)
        clear HKS HIH
        cases O with
        | none =>
          have q2 := (HSf.out.get 2 rfl).see3
          go_wp2_with fail
          exact ended_nb_ rfl rfl rfl ((HSf.out.st3 2 rfl _ _ _).get 2 rfl) ⟨rfl, (HSf.out.st3 2 rfl _ _ _).below⟩
        | some m =>
          have HM := hide (HN.out m rfl)
          obtain ⟨g4, c4, w4, cur, xs, hr4, hb4, hg4, hbk4, hx4, hcur4⟩ := kids_app HSLf.out (by omega) (by omega)
          clear HSLf HN
          have HS4 := hide (HSf.out.call hb4)
          have HB4 := hide hb4
          have HBK4 := hide hbk4
          have HX4 := hide hx4
          have HCU := hide hcur4
          have hlx := hx4.length
          have hcs : ∀ k, k < ds.length * 3 → ∃ t, w4.cell? ⟨g4, k, none⟩ = some t := fun k hk => by
            rw [hbk4.cell k, hcur4 k hk, List.getElem?_eq_getElem (by omega)]
            exact ⟨_, rfl⟩
          obtain ⟨t0, e0⟩ := hcs (j * 3) (by omega)
          obtain ⟨t1, e1⟩ := hcs (j * 3 + 1) (by omega)
          obtain ⟨t2, e2⟩ := hcs (j * 3 + 2) (by omega)
          have f0 := hbk4.frozen (j * 3)
          have f1 := hbk4.frozen (j * 3 + 1)
          have f2 := hbk4.frozen (j * 3 + 2)
          have p0 := (HSf.out.get 0 rfl).see3
          have l1 := (HSf.out.get 1 rfl).lt
          have l2 := (HSf.out.get 2 rfl).lt
          have l3 := (HSf.out.get 3 rfl).lt
          have lv2 : w.heap.size + 1 + 1 < W1.heap.size := LV2.out
          clear hcs hb4 hbk4 hx4 hcur4
          have r0 := (HS4.out.get 0 rfl).see3
          have r2 := (HS4.out.get 2 rfl).see3
          have r3 := (HS4.out.get 3 rfl).see3
          go_wp2_with (at_builtin; refine wpList_append_run rfl _ _ (by rfl) (by rfl) (by rfl) (by rfl) hr4 ?_)
          clear hr4 p0 r0 r2 r3 e0 e1 e2 f0 f1 f2
          refine namedPost fun W6 hW6 => ?_
          have hbk4 := HBK4.out
          have hng : w.heap.size + 1 + 1 ≠ g4 := by omega
          have hRB : Blk W6 (w.heap.size + 1 + 1) 24 #[.int .i64 k0, .string s0, .slice (some ⟨g4, 0, none⟩) ds.length c4] := by
            rw [hW6]
            exact ((((((HS4.out.get 2 rfl).far hng _).far hng _).far hng _).set_ 0 _).set_ 1 _).set_ 2 _
          have hGB : Blk W6 g4 24 (((cur.setIfInBounds (j * 3) (.int .i64 k5)).setIfInBounds (j * 3 + 1) (.string s5)).setIfInBounds (j * 3 + 2) (.slice y5 m5 c5)) := by
            rw [hW6]
            exact (((((hbk4.set_ (j * 3) _).set_ (j * 3 + 1) _).set_ (j * 3 + 2) _).far hng.symm _).far hng.symm _).far hng.symm _
          have hb6 : Below w.heap.size w W6 := by
            rw [hW6]
            exact bl_st3 (bl_st (bl_st (bl_st HS4.out.below (by omega) _ _) (by omega) _ _) (by omega) _ _) (by omega) _ _ _
          have hz6 : w4.heap.size ≤ W6.heap.size := by rw [hW6]; simp
          have hlg := hbk4.lt
          have hlg2 := HB4.out.size
          have hk6 : ∀ q, q ≠ g4 → q ≠ w.heap.size + 1 + 1 → W6.heap[q]? = w4.heap[q]? := fun q h1 h2 => by
            rw [hW6]
            exact (heap_st3 h2 _ _ _).trans (heap_sts h1 _ _ _ _ _ _)
          have hx6 : IsRow W6 (Fn F w.heap.size W6) xs ds := HX4.out.keep fun q hq => ⟨Or.inl hq, (hb6.block q (HF.out q hq)).trans (HSf.out.below.block q (HF.out q hq)).symm⟩
          have hm6 : IsNd W6 (Fn F w.heap.size W6) m (.agg #[.int .i64 k5, .string s5, .slice y5 m5 c5]) := IsNd.keep (fun q hq => by
            have hqf : q < Wf.heap.size := hq.1.elim (fun h => Nat.lt_of_lt_of_le (HF.out q h) HSf.out.below.size) (fun h => h.2)
            have hqr : q ≠ w.heap.size + 1 + 1 := hq.1.elim (fun h => by have := HF.out q h; omega) (fun h => by omega)
            exact ⟨hq.1.imp id fun h => ⟨by omega, by omega⟩, (hk6 q (by omega) hqr).trans (HB4.out.block q hqf)⟩) _ _ HM.out
          have hset : (ds.set j m).length = ds.length := List.length_set
          have hsl6 : IsSl W6 (Fn F w.heap.size W6) (ds.set j m) (.slice (some ⟨g4, 0, none⟩) ds.length c4) := ⟨some ⟨g4, 0, none⟩, c4, by rw [hset], by rw [hset]; simp only [maxLen]; omega, fun _ => ⟨g4, 0, rfl, Or.inr ⟨by omega, by omega⟩, IsRow.nds (fun q u hu => by
            rw [Nat.zero_add, hGB.cell q]
            exact set3_get hlx HCU.out q u hu) (IsRow.set hm6 hx6)⟩⟩
          exact ended_nb_ rfl rfl rfl hRB ⟨⟨_, _, _, _, _, rfl, IsNd.join hk hs hsl6⟩, hb6⟩
    · have hnone : kidI ds i = none := by
        cases hkk : kidI ds i with
        | none => rfl
        | some z =>
          obtain ⟨h1, h2⟩ := kidI_some hkk
          exact absurd ⟨h1, (List.getElem?_eq_some_iff.1 h2).1⟩ hin
      rw [hnone]
      have hout : i < 0 ∨ (¬ i < 0 ∧ (ds.length : Int) ≤ i) := by omega
      clear hnone hin HIH
      obtain ⟨W1, hW1⟩ : ∃ W1, ((w.alloc (.cells #[.int .i64 k0, .string s0, .slice a1 ds.length c1] 24)).alloc (.cells #[.int .i64 kx, .string sx, .slice yx mx cx] 24)).alloc (.cells #[.int .i64 0, .string ⟨#[]⟩, .slice none 0 0] 24) = W1 := ⟨_, rfl⟩
      have HS1 := hide (show St w W1 [ne w.heap.size k0 s0 a1 ds.length c1, ne (w.heap.size + 1) kx sx yx mx cx, nz (w.heap.size + 1 + 1)] from St.onto hW1.symm ((((St.nil w).var 24 _ (by simp)).var 24 _ (by simp)).var 24 _ (by simp)))
      have gp1 := (HS1.out.below.cell (p := ⟨pb, po, none⟩) hpb).trans gp
      have p0 := (HS1.out.get 0 rfl).see3
      have p2 := (HS1.out.get 2 rfl).see3
      rcases hout with hx0 | ⟨hx0, hxm⟩
      all_goals
        go_enter Tryz.func47, Tryz.ntmps47
        go_wp2_with fail
        exact ended_nb_ rfl rfl rfl ((HS1.out.st3 2 rfl _ _ _).get 2 rfl) ⟨rfl, (HS1.out.st3 2 rfl _ _ _).below⟩
end Go.Proofs.YtacgmmpdichlmaaGreat
