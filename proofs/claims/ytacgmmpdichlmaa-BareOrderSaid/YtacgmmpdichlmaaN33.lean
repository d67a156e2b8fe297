/-
  The reference's Program and Source: of any items, of any text. No condition.
-/
import Derived.Test.YtacgmmpdichlmaaN29
import Derived.Test.YtacgmmpdichlmaaN32
namespace Go.Proofs.Ytacgmmpdichlmaa
open Go.RowKit
attribute [local go_sem ↓] Go.wp_at_zero Go.wp_at_succ

/-- What Program, and Source, hand back. -/
def ProgP (N : Nat) (w : World) (r : Ending) (w' : World) : Prop :=
  (∃ (d : Nd) (k : Int) (s : ByteArray) (y : Option Addr) (m c : Nat) (e : Int) (p : Nat), r = .returned (.tuple #[.agg #[.int .i64 k, .string s, .slice y m c], .int .i64 e, .int .i64 p]) ∧
    IsNd w' (New w.heap.size w') d (.agg #[.int .i64 k, .string s, .slice y m c]) ∧ d.count ≤ N) ∧ Below w.heap.size w w'
def SrcP (w : World) (r : Ending) (w' : World) : Prop :=
  (∃ (d : Nd) (k : Int) (s : ByteArray) (y : Option Addr) (m c : Nat) (e p : Int), r = .returned (.tuple #[.agg #[.int .i64 k, .string s, .slice y m c], .int .i64 e, .int .i64 p]) ∧
    IsNd w' (New w.heap.size w') d (.agg #[.int .i64 k, .string s, .slice y m c]) ∧ d.count ≤ 600000) ∧ Below w.heap.size w w'
theorem program_zero {l : List Tk} {a : Option Addr} {cap : Nat} {w : World} (hi : Its w a l) : Calls Try.prog 42 #[.agg #[.slice a l.length cap, .int .i64 0, .bool false]] w (PN l a cap w 0 false 3) := program_any (i := 0) (bad := false) hi (Nat.zero_le _)

set_option maxRecDepth 4000 in
set_option maxHeartbeats 4000000 in
theorem prog_any {l : List Tk} {a : Option Addr} {cap : Nat} {w : World} (hi : Its w a l) : Calls Try.prog 26 #[.slice a l.length cap] w (ProgP (8 * l.length + 3) w) := by
  have hlen := hi.2.1
  go_enter Try.func26, Try.ntmps26
  go_wp2_with fail
  refine named fun W1 hW1 => ?_
  have HS1 := onS hW1 (St.nil w).va
  clear hW1
  refine (deep_any (hi.below HS1.out.below)).mono ?_
  rintro e w2 ⟨⟨z, rfl, hz1, hz2, hz3⟩, hb2⟩
  have HS2 := hide (HS1.out.call hb2)
  clear hb2 HS1
  have p0 := rD HS2
  by_cases h0 : 0 ≤ z
  ·
   obtain ⟨zn, rfl⟩ : ∃ zn : Nat, z = zn := ⟨z.toNat, by omega⟩
   go_wp2_with fail
   refine namedPost fun W3 hW3 => ?_
   have HS3 := onS hW3 (HS2.out.st3 0 rfl _ _ _)
   clear hW3 HS2
   clear p0
   have HNr4 := hide (show Nx w W3 [w.heap.size] (Nd.mk 0 ⟨#[]⟩ .nil) (.agg #[.int .i64 0, .string ⟨#[]⟩, .slice none 0 0]) from Nx.leaf (by omega) (by decide))
   refine namedPost fun W5 hW5 => ?_
   have HS5 := hide (St.onto hW5 HS3.out)
   have HNr5 := hide (Nx.onto hW5 HNr4.out)
   clear HNr4
   clear hW5 HS3
   exact ended_nii rfl rfl rfl rfl (HS5.out.get 0 rfl) ⟨⟨_, _, _, _, _, _, 21, zn, rfl, HNr5.out.out, (by rw [cntLeaf]; omega)⟩, HS5.out.below⟩
  go_wp2_with fail
  refine (program_zero (hi.below HS2.out.below)).mono ?_
  rintro e w6 ⟨⟨i6, bad6, d6, k6, s6, y6, m6, c6, rfl, hn6, ⟨hi6, hl6, hp6⟩, hc6⟩, hb6⟩
  have HS6 := hide (HS2.out.call hb6)
  have HNn6 := hide (show Nx w w6 [w.heap.size] _ _ from Nx.made hn6 HS2.out)
  clear hn6 hb6 HS2
  clear p0
  have p0 := rD HS6
  cases bad6
  case true =>
   clear p0
   have p0 := rD HS6
   go_wp2_with fail
   have lv7 := lV HS6
   refine namedWp fun W7 hW7 => ?_
   have HS7 := onS hW7 HS6.out.va.va
   have HNn7 := hide (Nx.onto hW7 ((HNn6.out.var (g := w6.heap.size) (by simp) _).var (g := w6.heap.size + 1) (by simp) _))
   clear HNn6
   clear hW7 HS6
   clear p0
   refine rgn HS7.out [1] fun W8 hW8 => ?_
   have HS8 := hide (St.onto hW8 HS7.out.dr)
   have HNn8 := hide (Nx.onto hW8 HNn7.out.dr)
   clear HNn7
   clear hW8 HS7
   refine tK 0 (kS HS8.out [1]) ?_
   refine tK 1 (kS HS8.out [1]) ?_
   refine tK 2 (kS HS8.out [1]) ?_
   refine rY 3 fun K hK => ?_
   have p0 := rG HS8 0
   go_simp
   refine onW hK (kS (HS8.out.st3 0 rfl _ _ _) [1]) fun W9 hW9 => ?_
   clear hK K
   have HS9 := onS hW9 (HS8.out.st3 0 rfl _ _ _)
   have HNn9 := hide (Nx.onto hW9 (HNn8.out.st3 (by simp) _ _ _))
   clear HNn8
   clear hW9 HS8
   clear p0
   refine tK 4 (kS HS9.out [1]) ?_
   refine tK 5 (kS HS9.out [1]) ?_
   refine wpAnyH_done (by kernel_rfl) ?_ _
   go_wp2_with fail
   refine namedPost fun W10 hW10 => ?_
   have HS10 := hide (St.onto hW10 HS9.out)
   have HNn10 := hide (Nx.onto hW10 HNn9.out)
   clear HNn9
   clear hW10 HS9
   have HNr11 := hide (show Nx w W10 [w.heap.size, w6.heap.size, w6.heap.size + 1] (Nd.mk 0 ⟨#[]⟩ .nil) (.agg #[.int .i64 0, .string ⟨#[]⟩, .slice none 0 0]) from Nx.leaf (by omega) (by decide))
   refine namedPost fun W12 hW12 => ?_
   have HS12 := hide (St.onto hW12 HS10.out)
   have HNn12 := hide (Nx.onto hW12 HNn10.out)
   have HNr12 := hide (Nx.onto hW12 HNr11.out)
   clear HNn10 HNr11
   clear hW12 HS10
   exact ended_nii rfl rfl rfl rfl (HS12.out.get 0 rfl) ⟨⟨_, _, _, _, _, _, 22, i6, rfl, HNr12.out.out, (by rw [cntLeaf]; omega)⟩, HS12.out.below⟩
  clear p0
  have p0 := rD HS6
  go_wp2_with fail
  have lv13 := lV HS6
  refine namedPost fun W13 hW13 => ?_
  have HS13 := onS hW13 (HS6.out.st3 0 rfl _ _ _).va.va
  have HNr13 := hide (Nx.onto hW13 (((HNn6.out.st3 (by simp) _ _ _).var (g := w6.heap.size) (by simp) _).var (g := w6.heap.size + 1) (by simp) _))
  clear HNn6
  clear hW13 HS6
  clear p0
  exact ended_nii rfl rfl rfl rfl (HS13.out.get 0 rfl) ⟨⟨_, _, _, _, _, _, 0, 0, rfl, HNr13.out.out, by omega⟩, HS13.out.below⟩

theorem isEmptyNd {w : World} {G : Nat → Prop} : IsNd w G (.mk 0 ⟨#[]⟩ .nil) (.agg #[.int .i64 0, .string ⟨#[]⟩, .slice none 0 0]) := IsNd.leaf (by omega) (by decide)
set_option maxRecDepth 4000 in
set_option maxHeartbeats 4000000 in
theorem source_any (s : ByteArray) (w : World) : Calls Try.prog 13 #[.string s] w (SrcP w) := by
  go_enter Try.func13, Try.ntmps13
  go_wp2_with fail
  refine named fun W1 hW1 => ?_
  have HS1 := onS hW1 (St.nil w).va
  clear hW1
  refine (tokens_any s _).mono ?_
  rintro e w2 ⟨⟨v, l, e0, p0, rfl, hT, hl, hok⟩, hb2⟩
  have HS2 := hide (HS1.out.call hb2)
  clear hb2 HS1
  have hrl := (HS2.out.get 0 rfl).lt
  obtain ⟨va, vc, rfl⟩ := hT.form
  have HT := hide hT
  have HOK := hide hok
  clear hT hok
  by_cases he0 : e0 = 0
  ·
   subst he0
   have p0 := rD HS2
   go_wp2_with fail
   refine (items_any HT.out hl HOK.out).mono ?_
   rintro e w3 ⟨⟨u, ia, ic, rfl, hits, hat⟩, hb3⟩
   have HS3 := hide (HS2.out.call hb3)
   clear hb3 HS2
   clear p0
   have hlf : (l.filter plainB).length ≤ 65536 := Nat.le_trans (List.length_filter_le _ _) hl
   obtain ⟨lf, hlf2⟩ : ∃ lf, l.filter plainB = lf := ⟨_, rfl⟩
   rw [hlf2] at hits hat hlf ⊢
   have HIT := hide hits
   have HAT := hide hat
   clear hits hat hlf2 HT HOK
   have p0 := rD HS3
   go_wp2_with fail
   refine (prog_any HIT.out).mono ?_
   rintro r w4 ⟨⟨d4, k4, s4, y4, m4, c4, e4, i4, rfl, hn4, hc4⟩, hb4⟩
   have HS4 := hide (HS3.out.call hb4)
   have HNn4 := hide (show Nx w w4 [w.heap.size] _ _ from Nx.made hn4 HS3.out)
   have HB4 := hide hb4
   clear hn4 hb4 HS3
   clear p0
   have p0 := rD HS4
   by_cases he1 : e4 = 0
   ·
    subst he1
    go_wp2_with fail
    have lv5 := lV HS4
    refine namedPost fun W5 hW5 => ?_
    have HS5 := onS hW5 (HS4.out.st3 0 rfl _ _ _).va
    have HNr5 := hide (Nx.onto hW5 ((HNn4.out.st3 (by simp) _ _ _).var (g := w4.heap.size) (by simp) _))
    clear HNn4
    clear hW5 HS4
    clear p0
    exact ended_nii rfl rfl rfl rfl (HS5.out.get 0 rfl) ⟨⟨_, _, _, _, _, _, 0, 0, rfl, HNr5.out.out, by omega⟩, HS5.out.below⟩
   have hee : (e4 == 0) = false := by simpa using he1
   clear he1
   by_cases hlt : i4 < lf.length
   ·
    have hlti : ¬ (lf.length : Int) ≤ (i4 : Int) := by omega
    have hltj : (i4 : Int) < (lf.length : Int) := by omega
    obtain ⟨ib, io, rfl, hib1, hib2, ip, hcell⟩ := HAT.out i4 hlt
    have hcell2 := (HB4.out.cell (p := ⟨ib, io + i4 * 4 + 2, none⟩) hib2).trans hcell
    have hibl : ib < w4.heap.size := Nat.lt_of_lt_of_le hib2 HB4.out.size
    go_wp2_with fail
    have HCat0 := hide hcell2
    have hibr : ib ≠ w.heap.size := by omega
    have lv6 := lV HS4
    refine namedWp fun W6 hW6 => ?_
    have HS6 := onS hW6 HS4.out.va
    have HCat6 := hide (onto_cell hW6 (alloc_cell hibl HCat0.out _))
    clear HCat0
    have HNn6 := hide (Nx.onto hW6 (HNn4.out.var (g := w4.heap.size) (by simp) _))
    clear HNn4
    clear hW6 HS4
    clear p0
    refine namedWp fun W7 hW7 => ?_
    have HS7 := hide (St.onto hW7 HS6.out)
    have HCat7 := hide (onto_cell hW7 HCat6.out)
    clear HCat6
    have HNn7 := hide (Nx.onto hW7 HNn6.out)
    clear HNn6
    clear hW7 HS6
    refine wp_region_held_drew (S := fun w' => (w'.cell? ⟨ib, io + i4 * 4 + 2, none⟩ = some (.int .i64 ip))) (by kernel_rfl) ?_ (fun hHeld => ?_)
    · exact HCat7.out
    refine namedAny fun W8 hW8 => ?_
    have HS8 := hide (St.onto hW8 HS7.out.dr)
    have HCat8 := hide (onto_cell hW8 (dr_cell HCat7.out))
    clear HCat7
    have HNn8 := hide (Nx.onto hW8 HNn7.out.dr)
    clear HNn7
    clear hW8 HS7
    have hSn := HCat8.out
    clear hHeld
    refine takeH (i := 0) (v := ?_) rfl (by kernel_rfl) (by kernel_rfl) (by kernel_rfl) (fun _ _ _ h => h) (by rfl) (by assumption) (fun w hSw => ?_) ?_; rotate_left
    · (try dsimp only at hSw); (try go_split_ands); go_simp; all_goals with_reducible rfl
    try simp only [Act.put, List.getElem_toArray, List.getElem_cons_zero, List.setIfInBounds_toArray, List.set_cons_zero, List.set_cons_succ]
    refine takeH (i := 1) (v := ?_) rfl (by kernel_rfl) (by kernel_rfl) (by kernel_rfl) (fun _ _ _ h => h) (by rfl) (by assumption) (fun w hSw => ?_) ?_; rotate_left
    · (try dsimp only at hSw); (try go_split_ands); go_simp; all_goals with_reducible rfl
    try simp only [Act.put, List.getElem_toArray, List.getElem_cons_zero, List.getElem_cons_succ, List.setIfInBounds_toArray, List.set_cons_zero, List.set_cons_succ]
    refine takeH (i := 2) (v := ?_) rfl (by kernel_rfl) (by kernel_rfl) (by kernel_rfl) (fun _ _ _ h => h) (by rfl) (by assumption) (fun w hSw => ?_) ?_; rotate_left
    · (try dsimp only at hSw); (try go_split_ands); go_simp; all_goals with_reducible rfl
    try simp only [Act.put, List.getElem_toArray, List.getElem_cons_zero, List.getElem_cons_succ, List.setIfInBounds_toArray, List.set_cons_zero, List.set_cons_succ]
    refine takeH (i := 3) (v := ?_) rfl (by kernel_rfl) (by kernel_rfl) (by kernel_rfl) (fun _ _ _ h => h) (by rfl) (by assumption) (fun w hSw => ?_) ?_; rotate_left
    · (try dsimp only at hSw); (try go_split_ands); go_simp; all_goals with_reducible rfl
    try simp only [Act.put, List.getElem_toArray, List.getElem_cons_zero, List.getElem_cons_succ, List.setIfInBounds_toArray, List.set_cons_zero, List.set_cons_succ]
    refine takeH (i := 4) (v := ?_) rfl (by kernel_rfl) (by kernel_rfl) (by kernel_rfl) (fun _ _ _ h => h) (by rfl) (by assumption) (fun w hSw => ?_) ?_; rotate_left
    · (try dsimp only at hSw); (try go_split_ands); go_simp; all_goals with_reducible rfl
    try simp only [Act.put, List.getElem_toArray, List.getElem_cons_zero, List.getElem_cons_succ, List.setIfInBounds_toArray, List.set_cons_zero, List.set_cons_succ]
    refine takeH (i := 5) (v := ?_) rfl (by kernel_rfl) (by kernel_rfl) (by kernel_rfl) (fun _ _ _ h => h) (by rfl) (by assumption) (fun w hSw => ?_) ?_; rotate_left
    · (try dsimp only at hSw); (try go_split_ands); go_simp; all_goals with_reducible rfl
    try simp only [Act.put, List.getElem_toArray, List.getElem_cons_zero, List.getElem_cons_succ, List.setIfInBounds_toArray, List.set_cons_zero, List.set_cons_succ]
    refine takeH (i := 6) (v := ?_) rfl (by kernel_rfl) (by kernel_rfl) (by kernel_rfl) (fun _ _ _ h => h) (by rfl) (by assumption) (fun w hSw => ?_) ?_; rotate_left
    · (try dsimp only at hSw); (try go_split_ands); go_simp; all_goals with_reducible rfl
    try simp only [Act.put, List.getElem_toArray, List.getElem_cons_zero, List.getElem_cons_succ, List.setIfInBounds_toArray, List.set_cons_zero, List.set_cons_succ]
    refine rY 7 fun K hK => ?_
    clear hSn
    have p0 := rG HS8 0
    go_simp
    refine onW hK ((st3_cell hibr HCat8.out _ _ _)) fun W9 hW9 => ?_
    clear hK K
    have HS9 := onS hW9 (HS8.out.st3 0 rfl _ _ _)
    have HCat9 := hide (onto_cell hW9 (st3_cell hibr HCat8.out _ _ _))
    clear HCat8
    have HNn9 := hide (Nx.onto hW9 (HNn8.out.st3 (by simp) _ _ _))
    clear HNn8
    clear hW9 HS8
    clear p0
    have hSn := HCat9.out
    refine takeH (i := 8) (v := ?_) rfl (by kernel_rfl) (by kernel_rfl) (by kernel_rfl) (fun _ _ _ h => h) (by rfl) (by assumption) (fun w hSw => ?_) ?_; rotate_left
    · (try dsimp only at hSw); (try go_split_ands); go_simp; all_goals with_reducible rfl
    try simp only [Act.put, List.getElem_toArray, List.getElem_cons_zero, List.getElem_cons_succ, List.setIfInBounds_toArray, List.set_cons_zero, List.set_cons_succ]
    refine takeH (i := 9) (v := ?_) rfl (by kernel_rfl) (by kernel_rfl) (by kernel_rfl) (fun _ _ _ h => h) (by rfl) (by assumption) (fun w hSw => ?_) ?_; rotate_left
    · (try dsimp only at hSw); (try go_split_ands); go_simp; all_goals with_reducible rfl
    try simp only [Act.put, List.getElem_toArray, List.getElem_cons_zero, List.getElem_cons_succ, List.setIfInBounds_toArray, List.set_cons_zero, List.set_cons_succ]
    refine wpAnyH_done (by kernel_rfl) ?_ _
    clear hSn
    go_wp2_with fail
    refine namedPost fun W10 hW10 => ?_
    have HS10 := hide (St.onto hW10 HS9.out)
    have HCat10 := hide (onto_cell hW10 HCat9.out)
    clear HCat9
    have HNn10 := hide (Nx.onto hW10 HNn9.out)
    clear HNn9
    clear hW10 HS9
    have HNr11 := hide (show Nx w W10 [w.heap.size, w4.heap.size] (Nd.mk 0 ⟨#[]⟩ .nil) (.agg #[.int .i64 0, .string ⟨#[]⟩, .slice none 0 0]) from Nx.leaf (by omega) (by decide))
    refine namedPost fun W12 hW12 => ?_
    have HS12 := hide (St.onto hW12 HS10.out)
    have HCat12 := hide (onto_cell hW12 HCat10.out)
    clear HCat10
    have HNn12 := hide (Nx.onto hW12 HNn10.out)
    have HNr12 := hide (Nx.onto hW12 HNr11.out)
    clear HNn10 HNr11
    clear hW12 HS10
    exact ended_nii rfl rfl rfl rfl (HS12.out.get 0 rfl) ⟨⟨_, _, _, _, _, _, e4, ip, rfl, HNr12.out.out, (by rw [cntLeaf]; omega)⟩, HS12.out.below⟩
   have hlti : (lf.length : Int) ≤ (i4 : Int) := by omega
   go_wp2_with fail
   have lv13 := lV HS4
   refine namedPost fun W13 hW13 => ?_
   have HS13 := onS hW13 (HS4.out.st3 0 rfl _ _ _).va
   have HNn13 := hide (Nx.onto hW13 ((HNn4.out.st3 (by simp) _ _ _).var (g := w4.heap.size) (by simp) _))
   clear HNn4
   clear hW13 HS4
   clear p0
   have HNr14 := hide (show Nx w W13 [w.heap.size, w4.heap.size] (Nd.mk 0 ⟨#[]⟩ .nil) (.agg #[.int .i64 0, .string ⟨#[]⟩, .slice none 0 0]) from Nx.leaf (by omega) (by decide))
   refine namedPost fun W15 hW15 => ?_
   have HS15 := hide (St.onto hW15 HS13.out)
   have HNn15 := hide (Nx.onto hW15 HNn13.out)
   have HNr15 := hide (Nx.onto hW15 HNr14.out)
   clear HNn13 HNr14
   clear hW15 HS13
   exact ended_nii rfl rfl rfl rfl (HS15.out.get 0 rfl) ⟨⟨_, _, _, _, _, _, e4, _, rfl, HNr15.out.out, (by rw [cntLeaf]; omega)⟩, HS15.out.below⟩
  have hne0 : (e0 != 0) = true := by simpa using he0
  clear he0
  have p0 := rD HS2
  go_wp2_with fail
  refine namedPost fun W16 hW16 => ?_
  have HS16 := onS hW16 (HS2.out.st3 0 rfl _ _ _)
  clear hW16 HS2
  clear p0
  have HNr17 := hide (show Nx w W16 [w.heap.size] (Nd.mk 0 ⟨#[]⟩ .nil) (.agg #[.int .i64 0, .string ⟨#[]⟩, .slice none 0 0]) from Nx.leaf (by omega) (by decide))
  refine namedPost fun W18 hW18 => ?_
  have HS18 := hide (St.onto hW18 HS16.out)
  have HNr18 := hide (Nx.onto hW18 HNr17.out)
  clear HNr17
  clear hW18 HS16
  exact ended_nii rfl rfl rfl rfl (HS18.out.get 0 rfl) ⟨⟨_, _, _, _, _, _, e0, p0, rfl, HNr18.out.out, (by rw [cntLeaf]; omega)⟩, HS18.out.below⟩
end Go.Proofs.Ytacgmmpdichlmaa
