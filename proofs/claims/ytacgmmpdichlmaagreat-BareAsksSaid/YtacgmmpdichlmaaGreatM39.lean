/-
  The chapter's example. No condition.
-/
import Derived.Test.YtacgmmpdichlmaaGreatM02
import Derived.Test.YtacgmmpdichlmaaGreatM36
import Derived.Test.YtacgmmpdichlmaaGreatM03
import Derived.Test.YtacgmmpdichlmaaGreatM38
namespace Go.Proofs.YtacgmmpdichlmaaGreat
open Go.RowKit
attribute [local go_sem ↓] Go.wp_at_zero Go.wp_at_succ

theorem nd5_bare : bareN nd5 = nd1 := by
  have : nd5 = .mk 12 ⟨#[]⟩ (.cons (.mk 12 ⟨#[]⟩ (.cons nd1 .nil)) .nil) := rfl
  rw [this, bareN_yes, bareN_yes, nd1, bareN_no (by rfl), bareNs]
theorem nd1_bare : bareN nd1 = nd1 := by rw [nd1, bareN_no (by rfl), bareNs]
theorem nd5_bracks : (bracksN nd5).length = 2 := by
  have : nd5 = .mk 12 ⟨#[]⟩ (.cons (.mk 12 ⟨#[]⟩ (.cons nd1 .nil)) .nil) := rfl
  have h := count_bare nd5
  rw [nd5_bare] at h
  have h5 : nd5.count = 3 := by rw [this]; rfl
  have h1 : nd1.count = 1 := by rw [nd1]; rfl
  omega
theorem nd5_count : nd5.count ≤ 900000 := by
  have : nd5 = .mk 12 ⟨#[]⟩ (.cons (.mk 12 ⟨#[]⟩ (.cons nd1 .nil)) .nil) := rfl
  have h5 : nd5.count = 3 := by rw [this]; rfl
  omega
theorem nd1_count : nd1.count ≤ 900000 := by
  have h1 : nd1.count = 1 := by rw [nd1]; rfl
  omega
set_option maxRecDepth 100000 in
set_option maxHeartbeats 4000000 in
theorem known_any (w : World) : Calls Tryz.prog 7 #[] w (Says true w) := by
  go_enter Tryz.func7, Tryz.ntmps7
  go_wp2_with fail
  refine (source5 _).mono ?_
  rintro e w1 ⟨⟨k1, s1, y1, m1, c1, rfl, hn1⟩, hb1⟩
  have HN1 := hide hn1
  have HB1 := hide hb1
  clear hn1 hb1
  go_wp2_with fail
  refine named fun W1 hW1 => ?_
  have HS1 := hide (show St w W1 [ne w1.heap.size k1 s1 y1 m1 c1] from St.onto hW1 (((St.nil w).call HB1.out).var 24 _ (by simp)))
  have HA1 := hide (show Is W1 nd5 (.agg #[.int .i64 k1, .string s1, .slice y1 m1 c1]) from hW1 ▸ IsNd.keep (fun b hb => ⟨by simp; have := hb.2; omega, Below.heap_alloc w1 _ b hb.2⟩) _ _ HN1.out)
  clear hW1 HN1 HB1
  refine (source1 _).mono ?_
  rintro e w2 ⟨⟨k2, s2, y2, m2, c2, rfl, hn2⟩, hb2⟩
  have HS2 := hide (HS1.out.call hb2)
  have HA2 := hide (HA1.out.below hb2)
  have HN2 := hide (show Is w2 nd1 (.agg #[.int .i64 k2, .string s2, .slice y2 m2 c2]) from IsNd.keep (fun b hb => ⟨hb.2, rfl⟩) _ _ hn2)
  have lv2_0 := (HS2.out.get 0 rfl).lt
  clear hn2 hb2 HS1 HA1
  go_wp2_with fail
  refine namedWp fun W2 hW2 => ?_
  have HS3 := hide (show St w W2 [ne w1.heap.size k1 s1 y1 m1 c1, ne w2.heap.size k2 s2 y2 m2 c2] from St.onto hW2 (HS2.out.var 24 _ (by simp)))
  have hbW : Below w2.heap.size w2 W2 := hW2 ▸ (Below.refl _ w2).alloc (Nat.le_refl _) _
  have HA3 := hide (HA2.out.below hbW)
  have HB3 := hide (HN2.out.below hbW)
  clear hW2 hbW HS2 HA2 HN2 lv2_0
  refine wp_region_held_drew (S := fun w' => (w'.cell? ⟨w1.heap.size, 0, none⟩ = some (.int .i64 k1)) ∧ (w'.cell? ⟨w1.heap.size, 1, none⟩ = some (.string s1)) ∧ (w'.cell? ⟨w1.heap.size, 2, none⟩ = some (.slice y1 m1 c1)) ∧ (w'.cell? ⟨w2.heap.size, 0, none⟩ = some (.int .i64 k2)) ∧ (w'.cell? ⟨w2.heap.size, 1, none⟩ = some (.string s2)) ∧ (w'.cell? ⟨w2.heap.size, 2, none⟩ = some (.slice y2 m2 c2))) (by kernel_rfl) ?_ (fun hHeld => ?_)
  · exact see6_ (HS3.out.get 0 rfl) (HS3.out.get 1 rfl)
  refine namedAny fun W4 hW4 => ?_
  have HS4 := hide (St.onto hW4 HS3.out.dr)
  have hb4 : Below W2.heap.size W2 W4 := hW4 ▸ bl_dr (Below.refl _ W2)
  have HA4 := hide (HA3.out.below hb4)
  have HB4 := hide (HB3.out.below hb4)
  clear hW4 hb4 HS3 HA3 HB3 hHeld
  have hSn := see6_ (HS4.out.get 0 rfl) (HS4.out.get 1 rfl)
  refine tC 0 (by assumption) ?_
  refine tC 2 (by assumption) ?_
  clear hSn
  refine wpAnyH_ready (rs := [1]) (by kernel_rfl) (by simp) ?_
  refine AllReadyH.cons rfl (fun K hK => ?_) AllReadyH.nil
  go_simp
  refine (bare_any (w := W4) HA4.out nd5_count).mono ?_
  rintro e w5 ⟨k5, s5, y5, m5, c5, rfl, hn5, hb5⟩
  have HS5 := hide (HS4.out.call hb5)
  have HA5 := hide (HA4.out.below hb5)
  have HB5 := hide (HB4.out.below hb5)
  have HX5 := hide (show Is w5 nd1 (.agg #[.int .i64 k5, .string s5, .slice y5 m5 c5]) from nd5_bare ▸ IsNd.keep (fun b hb => ⟨hb.2, rfl⟩) _ _ hn5)
  clear hn5
  clear HS4 HA4 HB4
  go_simp
  refine hK.out _ _ (see6_ (HS5.out.get 0 rfl) (HS5.out.get 1 rfl)) (fun hHeld => ?_)
  clear hK K hHeld
  have hSn := see6_ (HS5.out.get 0 rfl) (HS5.out.get 1 rfl)
  clear hSn
  refine wpAnyH_ready (rs := [3]) (by kernel_rfl) (by simp) ?_
  refine AllReadyH.cons rfl (fun K hK => ?_) AllReadyH.nil
  go_simp
  refine (refSame_any nd1 nd1 _ _ w5 HX5.out HB5.out).mono ?_
  rintro e w6 ⟨rfl, hb6⟩
  have HS6 := hide (HS5.out.call hb6)
  have HA6 := hide (HA5.out.below hb6)
  have HB6 := hide (HB5.out.below hb6)
  clear HX5
  rw [sameN_refl]
  clear HS5 HA5 HB5
  go_simp
  refine hK.out _ _ (see6_ (HS6.out.get 0 rfl) (HS6.out.get 1 rfl)) (fun hHeld => ?_)
  clear hK K hHeld
  have hSn := see6_ (HS6.out.get 0 rfl) (HS6.out.get 1 rfl)
  refine tC 4 (by assumption) ?_
  refine tC 5 (by assumption) ?_
  refine tC 6 (by assumption) ?_
  clear hSn
  refine wpAnyH_ready (rs := [7]) (by kernel_rfl) (by simp) ?_
  refine AllReadyH.cons rfl (fun K hK => ?_) AllReadyH.nil
  go_simp
  refine (bareSame_any (w := w6) HA6.out HB6.out nd5_count nd1_count).mono ?_
  rintro e w7 ⟨rfl, hb7⟩
  have HS7 := hide (HS6.out.call hb7)
  have HA7 := hide (HA6.out.below hb7)
  have HB7 := hide (HB6.out.below hb7)
  rw [nd5_bare, nd1_bare, sameN_refl]
  clear HS6 HA6 HB6
  go_simp
  refine hK.out _ _ (see6_ (HS7.out.get 0 rfl) (HS7.out.get 1 rfl)) (fun hHeld => ?_)
  clear hK K hHeld
  have hSn := see6_ (HS7.out.get 0 rfl) (HS7.out.get 1 rfl)
  refine tC 8 (by assumption) ?_
  refine tC 9 (by assumption) ?_
  refine tC 10 (by assumption) ?_
  clear hSn
  refine wpAnyH_ready (rs := [11]) (by kernel_rfl) (by simp) ?_
  refine AllReadyH.cons rfl (fun K hK => ?_) AllReadyH.nil
  go_simp
  refine (brackets_any (w := w7) HA7.out nd5_count).mono ?_
  rintro e w8 ⟨pa, pc, rfl, hp8, hb8⟩
  have HS8 := hide (HS7.out.call hb8)
  have HA8 := hide (HA7.out.below hb8)
  have HB8 := hide (HB7.out.below hb8)
  rw [nd5_bracks]
  clear hp8
  clear HS7 HA7 HB7
  go_simp
  refine hK.out _ _ (see6_ (HS8.out.get 0 rfl) (HS8.out.get 1 rfl)) (fun hHeld => ?_)
  clear hK K hHeld
  have hSn := see6_ (HS8.out.get 0 rfl) (HS8.out.get 1 rfl)
  refine tC 12 (by assumption) ?_
  refine tC 13 (by assumption) ?_
  refine tC 14 (by assumption) ?_
  clear hSn
  refine wpAnyH_ready (rs := [15]) (by kernel_rfl) (by simp) ?_
  refine AllReadyH.cons rfl (fun K hK => ?_) AllReadyH.nil
  go_simp
  refine hK.out _ _ (see6_ (HS8.out.get 0 rfl) (HS8.out.get 1 rfl)) (fun hHeld => ?_)
  clear hK K hHeld
  refine wpAnyH_done (by kernel_rfl) ?_ _
  go_wp2_with fail
  go_ret
  exact ⟨rfl, HS8.out.below⟩
end Go.Proofs.YtacgmmpdichlmaaGreat
