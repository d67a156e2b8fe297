/-
  The reference's Count; the law's left and Weight. Its conditions: the value reads as a node; for Count, of at most 900000 nodes.
  The law's generator of programs: its choices; one of some words. Its condition: the choices read as bytes, the generator's variable lies in a block of its own.
  The law's generator of programs: one of some words. Its condition: the generator's variable as GenA has it.
  The law's generator of programs: arguments, patterns. Its condition: the generator's variable as GenA has it; what it calls answers with at most N bytes.
  The law's generator of programs: the pairs of an object. Its condition: the generator's variable as GenA has it; what it calls answers with at most N bytes.
  Nodes of blocks that are new since w, but for the variables' G, or of blocks F that were there. No condition.
  The reference's params: of a definition. Its condition: the parser's items lie in memory.
  The reference's pipe. Its condition: the parser's items lie in memory.
  The reference's deep: where too many brackets are open. Its condition: the parser's items lie in memory.
-/
import Derived.Test.YtacgmmpdichlmaaGreatM03
import Derived.Test.YtacgmmpdichlmaaGreatM00
import Derived.BigQuiet
import Derived.IntWalk
import Derived.Test.YtacgmmpdichlmaaGreatM02
namespace Go.Proofs.YtacgmmpdichlmaaGreat
open Go.RowKit
attribute [local go_sem ↓] Go.wp_at_zero Go.wp_at_succ

/-- The call gives this number; nothing old turns. -/
def Nums (z : Int) (w : World) (e : Ending) (w' : World) : Prop := e = .returned (.int .i64 z) ∧ Below w.heap.size w w'
def CountOk (d : Nd) : Prop := ∀ (v : Value) (w : World), Is w d v → d.count ≤ 900000 → Calls Tryz.prog 31 #[v] w (Nums d.count w)
theorem sum_take {ds : List Nd} {q : Nat} (h : q < ds.length) : ((ds.take (q + 1)).map Nd.count).sum = ((ds.take q).map Nd.count).sum + ds[q].count := by
  rw [List.take_succ_eq_append_getElem h, List.map_append, List.sum_append]
  simp
theorem sum_le (ds : List Nd) (q : Nat) : ((ds.take q).map Nd.count).sum ≤ (ds.map Nd.count).sum := by
  have h : (ds.map Nd.count).sum = ((ds.take q ++ ds.drop q).map Nd.count).sum := by rw [List.take_append_drop]
  rw [h, List.map_append, List.sum_append]
  omega
theorem count_sum (ks : Nds) : ks.count = (ks.toL.map Nd.count).sum := by rw [← Nds.count_ofL, Nds.ofL_toL]
set_option maxRecDepth 100000 in
set_option maxHeartbeats 4000000 in
theorem refCount_any (d : Nd) : CountOk d := by
  refine Nd.ind_ (P := CountOk) ?_ d
  intro k s ks IH v w hD hcnt
  obtain ⟨x, rfl, hk, hs, hsl⟩ := hD.split
  have HSL := hide hsl
  have HIH := hide IH
  obtain ⟨a1, c1, rfl, hm1, -⟩ := hsl
  simp only [maxLen] at hm1
  rw [count_mk, count_sum] at hcnt ⊢
  have HCM := hide (fun d h => Nat.le_trans (count_mem (ks := ks) (d := d) h) (show ks.count ≤ 900000 by rw [count_sum]; omega))
  clear hD IH
  obtain ⟨ds, hds⟩ : ∃ ds, ks.toL = ds := ⟨_, rfl⟩
  rw [hds] at HSL HIH HCM hm1 hcnt ⊢
  clear hds
  obtain ⟨N, hN⟩ : ∃ N, (ds.map Nd.count).sum = N := ⟨_, rfl⟩
  have HN := hide hN
  rw [hN] at hcnt ⊢
  clear hN
  go_enter Tryz.func31, Tryz.ntmps31
  go_wp2_with fail
  refine namedWp fun W1 hW1 => ?_
  have HS1 := onS hW1 (St.nil w).va
  clear hW1
  go_loopw [3, 4] (fun kv i wr => ∃ (q M : Nat), kv = .int .i64 M ∧ q ≤ ds.length ∧ i = .int .i64 q ∧ M = 1 + ((ds.take q).map Nd.count).sum ∧ St w wr [ne w.heap.size k s a1 ds.length c1]) (fun _ i _ => ds.length - (intOf i).toNat)
  case atStart => exact ⟨0, 1, rfl, Nat.zero_le _, rfl, rfl, HS1.out⟩
  obtain ⟨q, M, rfl, hq, rfl, hM, hS⟩ := hrel
  have HSr := hide hS
  have HM := hide hM
  clear hS hM HS1
  by_cases hlt : q < ds.length
  ·
   have hlti : (q : Int) < (ds.length : Int) := by omega
   obtain ⟨b, o, cap2, k1, s1, y1, m1, e1, hv, hFb, g0, g1, g2, hc⟩ := HSL.out.kid hlt
   cases hv
   have HC := hide hc
   clear hc
   replace g0 := (Below.cell HSr.out.below (p := ⟨b, o + q * 3, none⟩) hFb).trans g0
   replace g1 := (Below.cell HSr.out.below (p := ⟨b, o + q * 3 + 1, none⟩) hFb).trans g1
   replace g2 := (Below.cell HSr.out.below (p := ⟨b, o + q * 3 + 2, none⟩) hFb).trans g2
   have p0 := rD HSr
   go_wp2_with fail
   have hI1 : Is wr ds[q] _ := HC.out.below (HSr.out.below) HSr.out.below.size
   refine (HIH.out ds[q] (List.getElem_mem hlt) _ _ hI1 (HCM.out _ (List.getElem_mem hlt))).mono ?_
   rintro e w3 ⟨rfl, hb3⟩
   have HS3 := hide (HSr.out.call hb3)
   have hst := sum_take hlt
   have hle := sum_le ds (q + 1)
   obtain ⟨C, hC⟩ : ∃ C, ds[q].count = C := ⟨_, rfl⟩
   rw [hC] at hst ⊢
   have hM2 := HM.out
   have hN2 := HN.out
   have hMC : M + C ≤ 900000 := by omega
   have HM3 := hide (show M + C = 1 + ((ds.take (q + 1)).map Nd.count).sum by omega)
   clear hC hst hle hM2 hN2 hI1 g0 g1 g2 p0 hb3 HSr
   have p0 := rD HS3
   go_wp2_with fail
   exact ⟨⟨q + 1, M + C, by go_num, by omega, by go_num, HM3.out, HS3.out⟩, by simp [intOf]; omega⟩
  have p0 := rD HSr
  have hlti : ¬ (q : Int) < (ds.length : Int) := by omega
  obtain rfl : q = ds.length := by omega
  have hM2 := HM.out
  rw [List.take_length, HN.out] at hM2
  subst hM2
  go_wp2_with fail
  go_ret
  exact ⟨rfl, HSr.out.below⟩

mutual
/-- What is left of m, but for a node; below 0: it is more. -/
def leftN : Nd → Int → Int
  | .mk _ s ks, m => leftNs ks (m - (1 + s.size))
def leftNs : Nds → Int → Int
  | .nil, m => m
  | .cons d r, m => if 0 ≤ m then leftNs r (leftN d m) else m
end
mutual
theorem leftN_le : ∀ (d : Nd) (m : Int), 0 ≤ leftN d m → leftN d m + d.count ≤ m
  | .mk k s ks, m, h => by
    rw [leftN] at h ⊢
    have := leftNs_le ks _ h
    rw [Nd.count]
    omega
theorem leftNs_le : ∀ (ks : Nds) (m : Int), 0 ≤ leftNs ks m → leftNs ks m + ks.count ≤ m
  | .nil, m, h => by rw [leftNs]; simp [Nds.count]
  | .cons d r, m, h => by
    rw [leftNs] at h ⊢
    split at h
    · next hm =>
      rw [if_pos hm]
      have h1 := leftNs_le r _ h
      have h2 := leftN_le d m (by omega)
      rw [Nds.count]
      omega
    · omega
end
mutual
theorem leftN_max : ∀ (d : Nd) (m : Int), leftN d m ≤ m
  | .mk k s ks, m => by
    rw [leftN]
    have := leftNs_max ks (m - (1 + s.size))
    omega
theorem leftNs_max : ∀ (ks : Nds) (m : Int), leftNs ks m ≤ m
  | .nil, m => by rw [leftNs]; omega
  | .cons d r, m => by
    rw [leftNs]
    split
    · have h1 := leftNs_max r (leftN d m)
      have h2 := leftN_max d m
      omega
    · omega
end
/-- The same of a list. -/
def leftL : List Nd → Int → Int
  | [], m => m
  | d :: r, m => if 0 ≤ m then leftL r (leftN d m) else m
theorem leftNs_L : ∀ (ks : Nds) (m : Int), leftNs ks m = leftL ks.toL m
  | .nil, m => by rw [leftNs]; rfl
  | .cons d r, m => by rw [leftNs, Nds.toL, leftL, leftNs_L r]
theorem leftL_neg {l : List Nd} {m : Int} (h : ¬ 0 ≤ m) : leftL l m = m := by
  cases l with
  | nil => rfl
  | cons d r => rw [leftL, if_neg h]
theorem leftL_drop {ds : List Nd} {q : Nat} (h : q < ds.length) {m : Int} (hm : 0 ≤ m) : leftL (ds.drop q) m = leftL (ds.drop (q + 1)) (leftN ds[q] m) := by
  rw [List.drop_eq_getElem_cons h, leftL, if_pos hm]
/-- A number that fits. -/
def Fits (z : Int) : Prop := -9223372036854775808 ≤ z ∧ z ≤ 9223372036854775807
def LeftOk (d : Nd) : Prop := ∀ (v : Value) (w : World) (m : Int), Is w d v → 0 ≤ m → m ≤ 1000 → Fits (leftN d m) ∧ Calls Tryz.prog 21 #[v, .int .i64 m] w (Nums (leftN d m) w)
theorem wrap_len {m : Int} {n : Nat} (h0 : 0 ≤ m) (h1 : m ≤ 1000) (hn : n ≤ 9223372036854775807) : ∃ X M, IntKind.i64.wrap (1 + (n : Int)) = X ∧ IntKind.i64.wrap (m - X) = M ∧ M = m - (1 + (n : Int)) := by
  by_cases h : n = 9223372036854775807
  · subst h
    refine ⟨-9223372036854775808, _, by rfl, rfl, ?_⟩
    have : IntKind.i64.wrap (m - -9223372036854775808) = m - -9223372036854775808 - 18446744073709551616 := by
      have h2 : (m - -9223372036854775808) % 18446744073709551616 = m - -9223372036854775808 := Int.emod_eq_of_lt (by omega) (by omega)
      show (if (true && decide ((m - -9223372036854775808) % 18446744073709551616 ≥ 9223372036854775808)) = true then (m - -9223372036854775808) % 18446744073709551616 - 18446744073709551616 else (m - -9223372036854775808) % 18446744073709551616) = _
      rw [h2, if_pos (by simp; omega)]
    rw [this]
    omega
  · exact ⟨1 + n, m - (1 + n), IntWalk.i64_in _ (by omega), IntWalk.i64_in _ (by omega), rfl⟩
set_option maxRecDepth 100000 in
set_option maxHeartbeats 4000000 in
theorem left_any (d : Nd) : LeftOk d := by
  refine Nd.ind_ (P := LeftOk) ?_ d
  intro k s ks IH v w m hD h0 h1
  obtain ⟨x, rfl, hk, hs, hsl⟩ := hD.split
  have HSL := hide hsl
  obtain ⟨a1, c1, rfl, hm1, -⟩ := hsl
  simp only [maxLen] at hm1 hs
  rw [leftN, leftNs_L]
  obtain ⟨X, M, hX, hMw, hM⟩ := wrap_len h0 h1 hs
  rw [← hM]
  have hMf : Fits M := by unfold Fits; omega
  have hM9 : M ≤ 1000 := by omega
  obtain ⟨ds, hds⟩ : ∃ ds, ks.toL = ds := ⟨_, rfl⟩
  rw [hds] at HSL IH hm1 ⊢
  have hfit : ∀ (l : List Nd), (∀ x ∈ l, x ∈ ds) → ∀ z : Int, Fits z → z ≤ 1000 → Fits (leftL l z) := by
    intro l
    induction l with
    | nil => exact fun _ z hz _ => hz
    | cons y l ih =>
      intro hl z hz hz1
      rw [leftL]
      split
      · next hp =>
        have hy := IH y (hl y (List.mem_cons_self ..)) 
        have hys := List.mem_iff_getElem.1 (hl y (List.mem_cons_self ..))
        obtain ⟨q, hq, hqe⟩ := hys
        obtain ⟨b, o, cap2, k1, s1, y1, m1, e1, hv, hFb, g0, g1, g2, hc⟩ := HSL.out.kid hq
        rw [hqe] at hc
        have h2 := (hy _ w z hc hp hz1).1
        exact ih (fun x hx => hl x (List.mem_cons_of_mem _ hx)) _ h2 (by have := leftN_max y z; omega)
      · exact hz
  refine ⟨hfit ds (fun _ h => h) M hMf hM9, ?_⟩
  have HIH := hide IH
  clear hD IH hds hM hfit
  obtain ⟨R, hR⟩ : ∃ R, leftL ds M = R := ⟨_, rfl⟩
  have HR := hide hR
  rw [hR]
  clear hR
  go_enter Tryz.func21, Tryz.ntmps21
  go_wp2_with fail
  refine namedWp fun W1 hW1 => ?_
  have HS1 := onS hW1 (St.nil w).va
  clear hW1 hX hMw
  go_loopw [1, 5] (fun mv i wr => ∃ (q : Nat) (z : Int), mv = .int .i64 z ∧ q ≤ ds.length ∧ i = .int .i64 q ∧ leftL (ds.drop q) z = R ∧ Fits z ∧ z ≤ 1000 ∧ St w wr [ne w.heap.size k s a1 ds.length c1]) (fun _ i _ => ds.length - (intOf i).toNat)
  case atStart => exact ⟨0, M, rfl, Nat.zero_le _, rfl, HR.out, hMf, hM9, HS1.out⟩
  obtain ⟨q, z, rfl, hq, rfl, hz, hzf, hz9, hS⟩ := hrel
  have HSr := hide hS
  have HZ := hide hz
  have HZF := hide hzf
  clear hS hz hzf HS1
  by_cases hlt : q < ds.length
  ·
   have hlti : (q : Int) < (ds.length : Int) := by omega
   by_cases hz0 : 0 ≤ z
   ·
    obtain ⟨b, o, cap2, k1, s1, y1, m1, e1, hv, hFb, g0, g1, g2, hc⟩ := HSL.out.kid hlt
    cases hv
    have HC := hide hc
    clear hc
    replace g0 := (Below.cell HSr.out.below (p := ⟨b, o + q * 3, none⟩) hFb).trans g0
    replace g1 := (Below.cell HSr.out.below (p := ⟨b, o + q * 3 + 1, none⟩) hFb).trans g1
    replace g2 := (Below.cell HSr.out.below (p := ⟨b, o + q * 3 + 2, none⟩) hFb).trans g2
    have p0 := rD HSr
    go_wp2_with fail
    have hI1 : Is wr ds[q] _ := HC.out.below (HSr.out.below) HSr.out.below.size
    obtain ⟨hf, hcall⟩ := HIH.out ds[q] (List.getElem_mem hlt) _ _ z hI1 hz0 hz9
    refine hcall.mono ?_
    rintro e w3 ⟨rfl, hb3⟩
    have HS3 := hide (HSr.out.call hb3)
    have hd := leftL_drop hlt hz0
    rw [HZ.out] at hd
    have hmx := leftN_max ds[q] z
    obtain ⟨C, hC⟩ : ∃ C, leftN ds[q] z = C := ⟨_, rfl⟩
    rw [hC] at hd hmx hf ⊢
    have HD := hide hd.symm
    have HF := hide hf
    have hC9 : C ≤ 1000 := by omega
    clear hC hd hmx hcall hI1 g0 g1 g2 p0 hb3 HSr hf HZ HZF hz0 hz9
    go_wp2_with fail
    exact ⟨⟨q + 1, C, rfl, by omega, by go_num, HD.out, HF.out, hC9, HS3.out⟩, by simp [intOf]; omega⟩
   have hz1 : z < 0 := by omega
   have p0 := rD HSr
   have he := HZ.out
   rw [leftL_neg hz0] at he
   subst he
   go_wp2_with fail
   go_ret
   exact ⟨rfl, HSr.out.below⟩
  have p0 := rD HSr
  have hlti : ¬ (q : Int) < (ds.length : Int) := by omega
  obtain rfl : q = ds.length := by omega
  have he := HZ.out
  rw [List.drop_length, leftL] at he
  subst he
  go_wp2_with fail
  go_ret
  exact ⟨rfl, HSr.out.below⟩
/-- How much there is of a tree. -/
def weightN (d : Nd) : Int := 1000 - max (leftN d 1000) (-1)
theorem weight_count {d : Nd} (h : weightN d ≤ 300) : d.count ≤ 300 := by
  unfold weightN at h
  have h1 := leftN_le d 1000
  omega
theorem weight_range (d : Nd) : 0 ≤ weightN d ∧ weightN d ≤ 1001 := by
  unfold weightN
  have h1 := leftN_max d 1000
  omega
set_option maxHeartbeats 4000000 in
theorem weight_any {d : Nd} {v : Value} {w : World} (hD : Is w d v) : Calls Tryz.prog 6 #[v] w (Nums (weightN d) w) := by
  obtain ⟨k, s, y, m, c, rfl⟩ := hD.form
  have HD := hide hD
  clear hD
  obtain ⟨R, hR⟩ : ∃ R, weightN d = R := ⟨_, rfl⟩
  have HR := hide hR
  rw [hR]
  clear hR
  go_enter Tryz.func6, Tryz.ntmps6
  go_wp2_with fail
  refine named fun W1 hW1 => ?_
  have HS1 := onS hW1 (St.nil w).va
  clear hW1
  obtain ⟨hf, hcall⟩ := left_any d _ W1 1000 (HD.out.below HS1.out.below) (by omega) (by omega)
  refine hcall.mono ?_
  rintro e w2 ⟨rfl, hb2⟩
  have HS2 := hide (HS1.out.call hb2)
  obtain ⟨L, hL⟩ : ∃ L, leftN d 1000 = L := ⟨_, rfl⟩
  have HL := hide hL
  rw [hL] at hf ⊢
  unfold Fits at hf
  have hmx : L ≤ 1000 := hL ▸ leftN_max d 1000
  clear hL hcall hb2 HS1
  by_cases hn : L < -1
  · obtain rfl : R = 1001 := by
      have := HR.out
      rw [weightN, HL.out] at this
      omega
    go_wp2_with fail
    go_ret
    exact ⟨rfl, HS2.out.below⟩
  · obtain rfl : R = 1000 - L := by
      have := HR.out
      rw [weightN, HL.out] at this
      omega
    go_wp2_with fail
    go_ret
    exact ⟨rfl, HS2.out.below⟩
end Go.Proofs.YtacgmmpdichlmaaGreat
namespace Go.Proofs.YtacgmmpdichlmaaGreat
open Go.RowKit
attribute [local go_sem ↓] Go.wp_at_zero Go.wp_at_succ

/-- All but block g is as it was. -/
structure Gb (g : Nat) (W W' : World) : Prop where
  below : Below g W W'
  keep : ∀ k, k < W.heap.size → k ≠ g → W'.heap[k]? = W.heap[k]?
theorem Gb.refl (g : Nat) (W : World) : Gb g W W := ⟨Below.refl _ _, fun _ _ _ => rfl⟩
theorem Gb.trans {g : Nat} {X Y Z : World} (h : Gb g X Y) (k : Gb g Y Z) : Gb g X Z := ⟨h.below.trans k.below, fun i hi hn => (k.keep i (Nat.lt_of_lt_of_le hi h.below.size) hn).trans (h.keep i hi hn)⟩
theorem Gb.of {g : Nat} {X Y : World} (h : Below X.heap.size X Y) (hg : g < X.heap.size) : Gb g X Y := ⟨h.mono (by omega), fun i hi _ => h.block i hi⟩
theorem Gb.al {g : Nat} {X Y : World} (h : Gb g X Y) (o : Obj) (hg : g < X.heap.size) : Gb g X (Y.alloc o) := h.trans (Gb.of ((Below.refl _ Y).alloc (Nat.le_refl _) o) (Nat.lt_of_lt_of_le hg h.below.size))
theorem Gb.drN {g : Nat} {X Y : World} (h : Gb g X Y) (n : Nat) : Gb g X (Y.drewN n) := ⟨below_drewN h.below n, h.keep⟩
theorem Gb.st {g : Nat} {X Y : World} (h : Gb g X Y) (i : Nat) (v : Value) : Gb g X (Y.setCell ⟨g, i, none⟩ v) := ⟨h.below.setCell (Nat.le_refl _) v, fun k hk hn => (Below.heap_setCell Y ⟨g, i, none⟩ v k (show k ≠ g from hn)).trans (h.keep k hk hn)⟩
/-- The generator's variable, in block g; its choices lie below block B. -/
structure GS (B g : Nat) (a : Option Addr) (m cap : Nat) (c : List Int) (W : World) : Prop where
  lo : B ≤ g
  var : ∃ k : Nat, k ≤ m ∧ Blk W g 71 #[.slice a m cap, .int .i64 k]
  bytes : IsBytes W (· < B) a m c
theorem IsBytes.keep {w w' : World} {F F' : Nat → Prop} {a : Option Addr} {n : Nat} {c : List Int} (h : IsBytes w F a n c) (hF : ∀ b, F b → F' b ∧ w'.heap[b]? = w.heap[b]?) : IsBytes w' F' a n c := by
  obtain ⟨h1, h2, h3, h4⟩ := h
  refine ⟨h1, h2, h3, fun hne => ?_⟩
  obtain ⟨b, o, ha, hb, hc⟩ := h4 hne
  exact ⟨b, o, ha, (hF b hb).1, fun k x hx => (World.cell?_of_block (w := w) (a := ⟨b, o + k, none⟩) (hF b hb).2).trans (hc k x hx)⟩
theorem GS.lt {B g : Nat} {a : Option Addr} {m cap : Nat} {c : List Int} {W : World} (h : GS B g a m cap c W) : g < W.heap.size := by
  obtain ⟨k, -, hb⟩ := h.var
  exact hb.lt
theorem GS.below {B g : Nat} {a : Option Addr} {m cap : Nat} {c : List Int} {W W' : World} (h : GS B g a m cap c W) (hb : Below W.heap.size W W') : GS B g a m cap c W' := by
  have hlt := h.lt
  have hlo := h.lo
  obtain ⟨k, hk, hv⟩ := h.var
  exact ⟨hlo, ⟨k, hk, hv.below hb hlt⟩, h.bytes.keep fun b hb' => ⟨hb', hb.block b (by omega)⟩⟩
/-- What a call of the generator hands back. -/
def GP (B g : Nat) (a : Option Addr) (m cap : Nat) (c : List Int) (N : Nat) (w : World) (e : Ending) (w' : World) : Prop := (∃ s : ByteArray, e = .returned (.string s) ∧ s.size ≤ N) ∧ Gb g w w' ∧ GS B g a m cap c w'
section
variable {B g : Nat} {a : Option Addr} {m cap : Nat} {c : List Int}
set_option maxRecDepth 100000 in
set_option maxHeartbeats 4000000 in
theorem gnext_any {W : World} (hG : GS B g a m cap c W) (n : Int) (hn : 1 ≤ n) (hn2 : n ≤ 1000) :
    Calls Tryz.prog 45 #[.pointer (some ⟨g, 0, none⟩), .int .i64 n] W fun e W' => (∃ r : Nat, e = .returned (.int .i64 r) ∧ (r : Int) < n) ∧ Gb g W W' ∧ GS B g a m cap c W' := by
  have hlo := hG.lo
  have hlt := hG.lt
  obtain ⟨k, hk, hv⟩ := hG.var
  have HBY := hide hG.bytes
  have hmm := hG.bytes.2.1
  have hml := hG.bytes.1
  simp only [maxLen] at hmm
  have HV := hide hv
  have p0 := hv.see2
  have HG := hide hG
  clear hv hG
  have hnl : ¬ n < 1 := by omega
  have hn0 : ¬ n = 0 := by omega
  by_cases hkm : k < m
  · obtain ⟨b, o, rfl, hFb, g0, b00, b01⟩ := HBY.out.get (k := k) (by omega)
    obtain ⟨x0, hx0⟩ : ∃ x0, c[k] = x0 := ⟨_, rfl⟩
    rw [hx0] at g0 b00 b01
    have hFb2 : b < B := hFb
    clear hx0 hml
    have hkmi : ¬ (m : Int) ≤ (k : Int) := by omega
    have e1 : IntKind.i64.wrap ((k : Int) + 1) = ((k + 1 : Nat) : Int) := IntWalk.i64_in _ (by omega)
    have e2 : IntKind.i64.wrap (((k + 1 : Nat) : Int) - 1) = (k : Int) := by rw [Int.natCast_add]; exact (IntWalk.i64_in _ (by omega)).trans (by omega)
    have e3 : IntKind.i64.wrap x0 = x0 := IntWalk.i64_in _ (by omega)
    have hki : (k : Int) < (m : Int) := by omega
    go_enter Tryz.func45, Tryz.ntmps45
    go_wp2_with fail
    go_quiet (fail)
    go_wp2_with fail
    refine namedWp fun W5 hW5 => ?_
    have hg5 : Gb g W W5 := hW5 ▸ ((Gb.refl g W).drN _).st _ _
    have hv5 : Blk W5 g 71 #[.slice (some ⟨b, o, none⟩) m cap, .int .i64 ((k + 1 : Nat) : Int)] := by
      rw [hW5]
      exact (HV.out.drewN nq).set_ 1 (.int .i64 ((k : Int) + 1))
    have HV5 := hide hv5
    have HG5 := hide hg5
    have q0 := hv5.see2
    have g5 : W5.cell? ⟨b, o + k, none⟩ = some (.int .u8 x0) := (World.cell?_of_block (w := W) (a := ⟨b, o + k, none⟩) (hg5.keep b (by omega) (show b ≠ g by omega))).trans g0
    clear hW5 hg5 hv5 g0 p0
    go_wp2_with fail
    go_quiet (fail)
    go_wp2_with fail
    go_ret
    have hm0 : 0 ≤ x0 % n := Int.emod_nonneg _ (by omega)
    have hm1 : x0 % n < n := Int.emod_lt_of_pos _ (by omega)
    refine ⟨⟨(x0 % n).toNat, by rw [Int.toNat_of_nonneg hm0]; rfl, by omega⟩, HG5.out.drN _, ⟨hlo, ⟨k + 1, by omega, HV5.out.drewN _⟩, HBY.out.keep fun b' hb' => ⟨hb', HG5.out.keep b' (by omega) (show b' ≠ g by omega)⟩⟩⟩
  · have hkmi : (m : Int) ≤ (k : Int) := by omega
    have dmk : decide (m ≤ k) = true := by simp; omega
    clear hml hkm
    go_enter Tryz.func45, Tryz.ntmps45
    go_wp2_with fail
    go_quiet (fail)
    go_wp2_with fail
    go_ret
    exact ⟨⟨0, rfl, by omega⟩, (Gb.refl g W).drN _, HG.out.below (below_drewN (Below.refl _ W) _)⟩
end
end Go.Proofs.YtacgmmpdichlmaaGreat
namespace Go.Proofs.YtacgmmpdichlmaaGreat
open Go.RowKit
attribute [local go_sem ↓] Go.wp_at_zero Go.wp_at_succ

/-- The generator at X, on the way from W. -/
structure Gg (B g : Nat) (a : Option Addr) (m cap : Nat) (c : List Int) (W X : World) : Prop where
  gb : Gb g W X
  gs : GS B g a m cap c X
/-- A text of at most N bytes. -/
def GT (B g : Nat) (a : Option Addr) (m cap : Nat) (c : List Int) (W : World) (N : Nat) (e : Ending) (X : World) : Prop := (∃ s : ByteArray, e = .returned (.string s) ∧ s.size ≤ N) ∧ Gg B g a m cap c W X
section
variable {B g : Nat} {a : Option Addr} {m cap : Nat} {c : List Int} {W X : World}
theorem GS.refl (h : GS B g a m cap c W) : Gg B g a m cap c W W := ⟨Gb.refl _ _, h⟩
theorem Gg.to {Y : World} (h : Gg B g a m cap c W X) (k : Gg B g a m cap c X Y) : Gg B g a m cap c W Y := ⟨h.gb.trans k.gb, k.gs⟩
theorem Gg.al (h : Gg B g a m cap c W X) (o : Obj) : Gg B g a m cap c W (X.alloc o) := h.to ⟨Gb.of ((Below.refl _ X).alloc (Nat.le_refl _) o) h.gs.lt, h.gs.below ((Below.refl _ X).alloc (Nat.le_refl _) o)⟩
theorem Gg.drN (h : Gg B g a m cap c W X) (n : Nat) : Gg B g a m cap c W (X.drewN n) := h.to ⟨(Gb.refl _ X).drN n, h.gs.below (below_drewN (Below.refl _ X) n)⟩
theorem gnextN (h : Gg B g a m cap c W X) (n : Int) (hn : 1 ≤ n := by omega) (hn2 : n ≤ 1000 := by omega) :
    Calls Tryz.prog 45 #[.pointer (some ⟨g, 0, none⟩), .int .i64 n] X fun e Y => (∃ r : Nat, e = .returned (.int .i64 r) ∧ (r : Int) < n) ∧ Gg B g a m cap c W Y :=
  (gnext_any h.gs n hn hn2).mono fun _ _ ⟨he, hb, hs⟩ => ⟨he, h.to ⟨hb, hs⟩⟩
theorem gnext (h : Gg B g a m cap c W X) (n : Int) (hn : 1 ≤ n := by omega) (hn2 : n ≤ 1000 := by omega) :
    Calls Tryz.prog 45 #[.pointer (some ⟨g, 0, none⟩), .int .i64 n] X fun e Y => (∃ r : Int, e = .returned (.int .i64 r) ∧ 0 ≤ r ∧ r < n) ∧ Gg B g a m cap c W Y :=
  (gnextN h n hn hn2).mono fun _ _ ⟨⟨r, e, hr⟩, hY⟩ => ⟨⟨r, e, by omega, hr⟩, hY⟩
theorem bsz (x : Array UInt8) : (ByteArray.mk x).size = x.size := rfl
def words : List Value → Bool
  | [] => true
  | .string s :: l => decide (s.size ≤ 9) && words l
  | _ :: _ => false
theorem words_get : ∀ {l : List Value} {i : Nat}, words l = true → i < l.length → ∃ s : ByteArray, l[i]? = some (.string s) ∧ s.size ≤ 9
  | .string s :: l, 0, h, _ => ⟨s, rfl, by simp [words] at h; exact h.1⟩
  | .string s :: l, i + 1, h, hi => by
    simp [words] at h
    simpa using words_get h.2 (by simpa using hi)
set_option maxRecDepth 100000 in
set_option maxHeartbeats 4000000 in
theorem gof {cs : Array Value} {n : Nat} (h : Gg B g a m cap c W X) (hn : cs.size = n := by rfl) (h0 : 0 < n := by omega) (h1 : n ≤ 1000 := by omega) (hw : words cs.toList = true := by rfl) :
    Calls Tryz.prog 60 #[.pointer (some ⟨g, 0, none⟩), .slice (some ⟨X.heap.size, 0, none⟩) n n] (X.alloc (.cells cs 9)) (GT B g a m cap c W 9) := by
  have hg := h.al (.cells cs 9)
  have hb := Blk.new X 9 cs
  have hgb : X.heap.size ≠ g := by have := h.gs.lt; omega
  revert hg hb hgb
  generalize X.heap.size = b
  generalize X.alloc (.cells cs 9) = Y
  clear h
  intro hg hb hgb
  have HG := hide hg
  have HB := hide hb
  clear hg hb
  have hn0 : (n : Int) ≠ 0 := by omega
  go_enter Tryz.func60, Tryz.ntmps60
  go_wp2_with fail
  refine (gnextN HG.out.gs.refl n).mono ?_
  rintro e Z ⟨⟨r, rfl, hr⟩, hz⟩
  have hrn : r < n := by omega
  obtain ⟨x, hx, hxs⟩ := words_get (l := cs.toList) (i := r) hw (by simpa [hn] using hrn)
  have hbZ : Blk Z b 9 cs := (hz.gb.keep b HB.out.lt hgb).trans HB.out
  have hxc : Z.cell? ⟨b, r, none⟩ = some (.string x) := by
    exact (hbZ.cell r).trans (by simpa using hx)
  have HZ := hide (HG.out.to hz)
  clear hz hbZ hw
  have hri : (r : Int) < (n : Int) := hr
  go_wp2_with fail
  go_ret
  exact ⟨⟨x, rfl, hxs⟩, HZ.out⟩
set_option maxRecDepth 100000 in
set_option maxHeartbeats 4000000 in
theorem gname (h : Gg B g a m cap c W X) : Calls Tryz.prog 63 #[.pointer (some ⟨g, 0, none⟩)] X (GT B g a m cap c W 9) := by
  go_enter Tryz.func63, Tryz.ntmps63
  go_wp2_with fail
  refine (gof h).mono ?_
  rintro e Y ⟨⟨s, rfl, hs⟩, hY⟩
  go_wp2_with fail
  go_ret
  exact ⟨⟨s, rfl, hs⟩, hY⟩
set_option maxRecDepth 100000 in
set_option maxHeartbeats 4000000 in
theorem gparams (h : Gg B g a m cap c W X) : Calls Tryz.prog 64 #[.pointer (some ⟨g, 0, none⟩)] X (GT B g a m cap c W 9) := by
  go_enter Tryz.func64, Tryz.ntmps64
  go_wp2_with fail
  refine (gof h).mono ?_
  rintro e Y ⟨⟨s, rfl, hs⟩, hY⟩
  go_wp2_with fail
  go_ret
  exact ⟨⟨s, rfl, hs⟩, hY⟩
end
end Go.Proofs.YtacgmmpdichlmaaGreat
namespace Go.Proofs.YtacgmmpdichlmaaGreat
open Go.RowKit
attribute [local go_sem ↓] Go.wp_at_zero Go.wp_at_succ

/-- Pipe and Post answer with at most N bytes, at depths up to n. -/
structure Kg (B g : Nat) (a : Option Addr) (m cap : Nat) (c : List Int) (W : World) (n : Int) (N : Nat) : Prop where
  lo : 40 ≤ N
  hi : N ≤ 1000000000
  top : n ≤ 1000
  pipe : ∀ {X : World} (d : Int), -1 ≤ d → d ≤ n → Gg B g a m cap c W X → Calls Tryz.prog 46 #[.pointer (some ⟨g, 0, none⟩), .int .i64 d] X (GT B g a m cap c W N)
  post : ∀ {X : World} (d : Int), -1 ≤ d → d ≤ n → Gg B g a m cap c W X → Calls Tryz.prog 61 #[.pointer (some ⟨g, 0, none⟩), .int .i64 d] X (GT B g a m cap c W N)
section
variable {B g : Nat} {a : Option Addr} {m cap : Nat} {c : List Int} {W X : World} {n : Int} {N : Nat}
set_option maxRecDepth 100000 in
set_option maxHeartbeats 4000000 in
theorem gargs (K : Hid (Kg B g a m cap c W n N)) (h : Gg B g a m cap c W X) (d : Int) (hd : -1 ≤ d) (hdn : d ≤ n) : Calls Tryz.prog 75 #[.pointer (some ⟨g, 0, none⟩), .int .i64 d] X (GT B g a m cap c W (2 * N + 10)) := by
  have hN := K.out.hi
  have hL := K.out.lo
  have hT := K.out.top
  go_enter Tryz.func75, Tryz.ntmps75
  go_wp2_with fail
  refine (K.out.pipe (d) (by omega) (by omega) h).mono ?_
  rintro e X1 ⟨⟨s1, rfl, h1⟩, hX1⟩
  go_wp2_with fail
  refine (gnext hX1 2).mono ?_
  rintro e X2 ⟨⟨r2, rfl, hr2, hs2⟩, hX2⟩
  by_cases hb2 : r2 = 1
  ·
    go_wp2_with fail
    refine (K.out.pipe (d) (by omega) (by omega) hX2).mono ?_
    rintro e X3 ⟨⟨s3, rfl, h3⟩, hX3⟩
    go_wp2_with fail
    go_ret
    exact ⟨⟨_, rfl, by first | omega | (simp only [ByteArray.size_append, bsz, List.size_toArray, List.length_cons, List.length_nil]; omega)⟩, hX3⟩
  ·
    go_wp2_with fail
    go_ret
    exact ⟨⟨_, rfl, by first | omega | (simp only [ByteArray.size_append, bsz, List.size_toArray, List.length_cons, List.length_nil]; omega)⟩, hX2⟩
set_option maxRecDepth 100000 in
set_option maxHeartbeats 4000000 in
theorem gpattern (K : Hid (Kg B g a m cap c W n N)) (h : Gg B g a m cap c W X) (d : Int) (hd : 0 ≤ d) (hdn : d - 1 ≤ n) : Calls Tryz.prog 62 #[.pointer (some ⟨g, 0, none⟩), .int .i64 d] X (GT B g a m cap c W (N + 60)) := by
  have hN := K.out.hi
  have hL := K.out.lo
  have hT := K.out.top
  have e1 : IntKind.i64.wrap (d - 1) = d - 1 := IntWalk.i64_in _ (by omega)
  go_enter Tryz.func62, Tryz.ntmps62
  go_wp2_with fail
  refine (gnext h 6).mono ?_
  rintro e X1 ⟨⟨r1, rfl, hr1, hs1⟩, hX1⟩
  obtain rfl | rfl | rfl | rfl | rfl | rfl : r1 = 0 ∨ r1 = 1 ∨ r1 = 2 ∨ r1 = 3 ∨ r1 = 4 ∨ r1 = 5 := by omega
  ·
    go_wp2_with fail
    refine (gname hX1).mono ?_
    rintro e X2 ⟨⟨s2, rfl, h2⟩, hX2⟩
    go_wp2_with fail
    refine (gname hX2).mono ?_
    rintro e X3 ⟨⟨s3, rfl, h3⟩, hX3⟩
    go_wp2_with fail
    go_ret
    exact ⟨⟨_, rfl, by first | omega | (simp only [ByteArray.size_append, bsz, List.size_toArray, List.length_cons, List.length_nil]; omega)⟩, hX3⟩
  ·
    go_wp2_with fail
    refine (gname hX1).mono ?_
    rintro e X2 ⟨⟨s2, rfl, h2⟩, hX2⟩
    go_wp2_with fail
    refine (gname hX2).mono ?_
    rintro e X3 ⟨⟨s3, rfl, h3⟩, hX3⟩
    go_wp2_with fail
    go_ret
    exact ⟨⟨_, rfl, by first | omega | (simp only [ByteArray.size_append, bsz, List.size_toArray, List.length_cons, List.length_nil]; omega)⟩, hX3⟩
  ·
    go_wp2_with fail
    refine (gname hX1).mono ?_
    rintro e X2 ⟨⟨s2, rfl, h2⟩, hX2⟩
    go_wp2_with fail
    refine (gname hX2).mono ?_
    rintro e X3 ⟨⟨s3, rfl, h3⟩, hX3⟩
    go_wp2_with fail
    go_ret
    exact ⟨⟨_, rfl, by first | omega | (simp only [ByteArray.size_append, bsz, List.size_toArray, List.length_cons, List.length_nil]; omega)⟩, hX3⟩
  ·
    go_wp2_with fail
    refine (K.out.pipe (d - 1) (by omega) (by omega) hX1).mono ?_
    rintro e X2 ⟨⟨s2, rfl, h2⟩, hX2⟩
    go_wp2_with fail
    refine (gname hX2).mono ?_
    rintro e X3 ⟨⟨s3, rfl, h3⟩, hX3⟩
    go_wp2_with fail
    go_ret
    exact ⟨⟨_, rfl, by first | omega | (simp only [ByteArray.size_append, bsz, List.size_toArray, List.length_cons, List.length_nil]; omega)⟩, hX3⟩
  ·
    go_wp2_with fail
    refine (gname hX1).mono ?_
    rintro e X2 ⟨⟨s2, rfl, h2⟩, hX2⟩
    go_wp2_with fail
    go_ret
    exact ⟨⟨_, rfl, by first | omega | (simp only [ByteArray.size_append, bsz, List.size_toArray, List.length_cons, List.length_nil]; omega)⟩, hX2⟩
  ·
    go_wp2_with fail
    refine (gname hX1).mono ?_
    rintro e X2 ⟨⟨s2, rfl, h2⟩, hX2⟩
    go_wp2_with fail
    go_ret
    exact ⟨⟨_, rfl, by first | omega | (simp only [ByteArray.size_append, bsz, List.size_toArray, List.length_cons, List.length_nil]; omega)⟩, hX2⟩
end
end Go.Proofs.YtacgmmpdichlmaaGreat
namespace Go.Proofs.YtacgmmpdichlmaaGreat
open Go.RowKit
attribute [local go_sem ↓] Go.wp_at_zero Go.wp_at_succ

section
variable {B g : Nat} {a : Option Addr} {m cap : Nat} {c : List Int} {W X : World} {n : Int} {N : Nat}
set_option maxRecDepth 100000 in
set_option maxHeartbeats 4000000 in
theorem gobject (K : Hid (Kg B g a m cap c W n N)) (h : Gg B g a m cap c W X) (d : Int) (hd : -1 ≤ d) (hdn : d ≤ n) : Calls Tryz.prog 74 #[.pointer (some ⟨g, 0, none⟩), .int .i64 d] X (GT B g a m cap c W (6 * N + 140)) := by
  have hN := K.out.hi
  have hL := K.out.lo
  have hT := K.out.top
  have e1 : IntKind.i64.wrap (0 + 1) = 1 := rfl
  go_enter Tryz.func74, Tryz.ntmps74
  go_wp2_with fail
  refine (gnext h 3).mono ?_
  rintro e X1 ⟨⟨r1, rfl, hr1, hs1⟩, hX1⟩
  go_wp2_with fail
  go_loopw [5, 7] (fun sv iv wr => ∃ (q : Nat) (s : ByteArray), (q : Int) ≤ r1 + 1 ∧ iv = .int .i64 q ∧ sv = .string s ∧ s.size ≤ 1 + q * (2 * N + 40) ∧ Gg B g a m cap c W wr) (fun _ iv _ => 3 - (intOf iv).toNat)
  case atStart => exact ⟨0, _, by omega, rfl, rfl, by simp [bsz], hX1⟩
  case round =>
    obtain ⟨q, s, hq, rfl, rfl, hs, hX⟩ := hrel
    have hq3 : q ≤ 3 := by omega
    have hsz : s.size ≤ 1 + 6 * N + 120 := by have : q * (2 * N + 40) ≤ 3 * (2 * N + 40) := Nat.mul_le_mul_right _ hq3; omega
    by_cases hlt : (q : Int) ≤ r1
    ·
      have hsq : s.size + (2 * N + 40) ≤ 1 + (q + 1) * (2 * N + 40) := by have := Nat.succ_mul q (2 * N + 40); simp only [Nat.succ_eq_add_one] at this; omega
      have e2 : IntKind.i64.wrap ((q : Int) + 1) = ((q + 1 : Nat) : Int) := IntWalk.i64_in _ (by omega)
      by_cases h0 : (q : Int) > 0
      ·
        go_wp2_with fail
        refine (gof hX).mono ?_
        rintro e X2 ⟨⟨s2, rfl, h2⟩, hX2⟩
        go_wp2_with fail
        refine (gnext hX2 3).mono ?_
        rintro e X3 ⟨⟨r3, rfl, hr3, hs3⟩, hX3⟩
        by_cases hb3 : r3 = 1
        ·
          go_wp2_with fail
          refine (K.out.pipe (d) (by omega) (by omega) hX3).mono ?_
          rintro e X4 ⟨⟨s4, rfl, h4⟩, hX4⟩
          go_wp2_with fail
          refine (K.out.post (d) (by omega) (by omega) hX4).mono ?_
          rintro e X5 ⟨⟨s5, rfl, h5⟩, hX5⟩
          go_wp2_with fail
          exact ⟨⟨q + 1, _, by omega, by go_num, rfl, by first | omega | (simp only [ByteArray.size_append, bsz, List.size_toArray, List.length_cons, List.length_nil]; omega), hX5⟩, by simp [intOf]; omega⟩
        ·
          go_wp2_with fail
          exact ⟨⟨q + 1, _, by omega, by go_num, rfl, by first | omega | (simp only [ByteArray.size_append, bsz, List.size_toArray, List.length_cons, List.length_nil]; omega), hX3⟩, by simp [intOf]; omega⟩
      ·
        go_wp2_with fail
        refine (gof hX).mono ?_
        rintro e X2 ⟨⟨s2, rfl, h2⟩, hX2⟩
        go_wp2_with fail
        refine (gnext hX2 3).mono ?_
        rintro e X3 ⟨⟨r3, rfl, hr3, hs3⟩, hX3⟩
        by_cases hb3 : r3 = 1
        ·
          go_wp2_with fail
          refine (K.out.pipe (d) (by omega) (by omega) hX3).mono ?_
          rintro e X4 ⟨⟨s4, rfl, h4⟩, hX4⟩
          go_wp2_with fail
          refine (K.out.post (d) (by omega) (by omega) hX4).mono ?_
          rintro e X5 ⟨⟨s5, rfl, h5⟩, hX5⟩
          go_wp2_with fail
          exact ⟨⟨q + 1, _, by omega, by go_num, rfl, by first | omega | (simp only [ByteArray.size_append, bsz, List.size_toArray, List.length_cons, List.length_nil]; omega), hX5⟩, by simp [intOf]; omega⟩
        ·
          go_wp2_with fail
          exact ⟨⟨q + 1, _, by omega, by go_num, rfl, by first | omega | (simp only [ByteArray.size_append]; omega), hX3⟩, by simp [intOf]; omega⟩
    ·
      go_wp2_with fail
      go_ret
      exact ⟨⟨_, rfl, by first | omega | (simp only [ByteArray.size_append, bsz, List.size_toArray, List.length_cons, List.length_nil]; omega)⟩, hX⟩
end
end Go.Proofs.YtacgmmpdichlmaaGreat
namespace Go.Proofs.YtacgmmpdichlmaaGreat
open Go.RowKit

def Fy (F : Nat → Prop) (w W : World) (G : List Nat) (b : Nat) : Prop := (F b ∧ b < w.heap.size) ∨ Nf w W G b
structure Ny (F : Nat → Prop) (w W : World) (G : List Nat) (d : Nd) (v : Value) : Prop where
  nd : IsNd W (Fy F w W G) d v
  size : w.heap.size ≤ W.heap.size
  mem : ∀ g ∈ G, w.heap.size ≤ g
/-- A row's cells. -/
structure Ry (F : Nat → Prop) (w W : World) (G : List Nat) (ds : List Nd) (xs : List Value) : Prop where
  row : IsRow W (Fy F w W G) xs ds
/-- A slice of nodes. -/
structure Sy (F : Nat → Prop) (w W : World) (G : List Nat) (ds : List Nd) (v : Value) : Prop where
  sl : IsSl W (Fy F w W G) ds v
  size : w.heap.size ≤ W.heap.size
  mem : ∀ g ∈ G, w.heap.size ≤ g

section
variable {F : Nat → Prop} {w W W' : World} {G G' : List Nat} {d : Nd} {ds : List Nd} {v : Value} {xs : List Value}
theorem Ny.call (h : Ny F w W G d v) (hb : Below W.heap.size W W') : Ny F w W' G d v :=
  ⟨IsNd.keep (fun b hb' => by
    rcases hb' with hb' | hb'
    · exact ⟨Or.inl hb', hb.block b (Nat.lt_of_lt_of_le hb'.2 h.size)⟩
    · exact ⟨Or.inr (Nf.go hb b hb').1, (Nf.go hb b hb').2⟩) _ _ h.nd, Nat.le_trans h.size hb.size, h.mem⟩
theorem Ny.onto (e : W' = W) (h : Ny F w W G d v) : Ny F w W' G d v := e ▸ h
theorem Ny.al (h : Ny F w W G d v) (o : Obj) : Ny F w (W.alloc o) G d v := h.call ((Below.refl _ W).alloc (Nat.le_refl _) o)
theorem Ny.dr (h : Ny F w W G d v) : Ny F w W.drew G d v := ⟨IsNd.keep (w := W) (w' := W.drew) (F := Fy F w W G) (F' := Fy F w W.drew G) (fun _ hb => ⟨hb, rfl⟩) _ _ h.nd, h.size, h.mem⟩
theorem Ny.var (h : Ny F w W G d v) {g : Nat} (hg : g = W.heap.size) (o : Obj) : Ny F w (W.alloc o) (G ++ [g]) d v :=
  ⟨IsNd.keep (fun b hb' => by
    rcases hb' with hb' | hb'
    · exact ⟨Or.inl hb', Below.heap_alloc W o b (Nat.lt_of_lt_of_le hb'.2 h.size)⟩
    · exact ⟨Or.inr (Nf.var hg b hb' o).1, (Nf.var hg b hb' o).2⟩) _ _ h.nd, by have := h.size; simp; omega, fun x hx => by
    rw [List.mem_append, List.mem_singleton] at hx
    rcases hx with hx | rfl
    · exact h.mem x hx
    · rw [hg]; exact h.size⟩
theorem Ny.st (h : Ny F w W G d v) {g : Nat} (hg : g ∈ G) (i : Nat) (u : Value) : Ny F w (W.setCell ⟨g, i, none⟩ u) G d v :=
  ⟨IsNd.keep (fun b hb' => by
    rcases hb' with hb' | hb'
    · exact ⟨Or.inl hb', Below.heap_setCell W ⟨g, i, none⟩ u b (fun e => by have h1 := h.mem g hg; have h2 := hb'.2; have h3 : b = g := e; omega)⟩
    · exact ⟨Or.inr (Nf.st g hg i u b hb').1, (Nf.st g hg i u b hb').2⟩) _ _ h.nd, by simpa using h.size, h.mem⟩
theorem Ny.st3 (h : Ny F w W G d v) {g : Nat} (hg : g ∈ G) (x y z : Value) : Ny F w (((W.setCell ⟨g, 0, none⟩ x).setCell ⟨g, 1, none⟩ y).setCell ⟨g, 2, none⟩ z) G d v := ((h.st hg 0 x).st hg 1 y).st hg 2 z
theorem Ny.fewer (h : Ny F w W G d v) (hG : ∀ g ∈ G', g ∈ G) : Ny F w W G' d v := ⟨IsNd.keep (fun b hb' => by
    rcases hb' with hb' | hb'
    · exact ⟨Or.inl hb', rfl⟩
    · exact ⟨Or.inr (Nf.fewer hG b hb').1, rfl⟩) _ _ h.nd, h.size, fun g hg => h.mem g (hG g hg)⟩
/-- A node that was there. -/
theorem Ny.old (h : IsNd w F d v) (hF : ∀ b, F b → b < w.heap.size) : Ny F w w [] d v := ⟨IsNd.keep (fun b hb => ⟨Or.inl ⟨hb, hF b hb⟩, rfl⟩) _ _ h, Nat.le_refl _, fun g h => by cases h⟩
/-- A node that a call at W made. -/
theorem Ny.made (h : IsNd W' (New W.heap.size W') d v) {V : List (Nat × TypeId × Array Value)} (hS : St w W V) (hb : Below W.heap.size W W') : Ny F w W' (V.map (·.1)) d v :=
  ⟨IsNd.keep (fun b hb => ⟨Or.inr ⟨Nat.le_trans hS.below.size hb.1, hb.2, fun e => by
    obtain ⟨x, hx, rfl⟩ := List.mem_map.1 e
    have := hS.lt hx
    have := hb.1
    omega⟩, rfl⟩) _ _ h, Nat.le_trans hS.below.size hb.size, fun g e => by
    obtain ⟨x, hx, rfl⟩ := List.mem_map.1 e
    exact (hS.vars x hx).1⟩
/-- Handed back. -/
theorem Ny.out (h : Ny F w W G d v) : IsNd W (fun b => (F b ∧ b < w.heap.size) ∨ New w.heap.size W b) d v := IsNd.keep (fun b hb => by
    rcases hb with hb | hb
    · exact ⟨Or.inl hb, rfl⟩
    · exact ⟨Or.inr ⟨hb.1, hb.2.1⟩, rfl⟩) _ _ h.nd
theorem Ny.leaf {k : Int} {s : ByteArray} {cap : Nat} {a : Option Addr} {V : List (Nat × TypeId × Array Value)} (hS : St w W V) (hk : -9223372036854775808 ≤ k ∧ k ≤ 9223372036854775807) (hs : s.size ≤ maxLen) : Ny F w W (V.map (·.1)) (.mk k s .nil) (.agg #[.int .i64 k, .string s, .slice a 0 cap]) :=
  ⟨IsNd.leaf hk hs, hS.below.size, fun g e => by
    obtain ⟨x, hx, rfl⟩ := List.mem_map.1 e
    exact (hS.vars x hx).1⟩
theorem Ry.nil : Ry F w W G [] [] := ⟨IsRow.nil⟩
theorem Ry.cons {c0 c1 c2 : Value} (h : Ny F w W G d (.agg #[c0, c1, c2])) (h' : Ry F w W G ds xs) : Ry F w W G (d :: ds) (c0 :: c1 :: c2 :: xs) := ⟨IsRow.cons.2 ⟨h.nd, h'.row⟩⟩
/-- Nodes that are laid in a slice. -/
theorem Ry.lit (h : Ry F w W G ds xs) {V : List (Nat × TypeId × Array Value)} (hS : St w W V) (hG : G = V.map (·.1)) (hl : ds.length ≤ maxLen) : Sy F w (W.alloc (.cells xs.toArray 24)) G ds (.slice (some ⟨W.heap.size, 0, none⟩) ds.length ds.length) :=
  ⟨IsSl.keep (fun b hb => ⟨by
    rcases hb with (hb | hb) | rfl
    · exact Or.inl hb
    · exact Or.inr ⟨hb.1, by simp; have := hb.2.1; omega, hb.2.2⟩
    · refine Or.inr ⟨hS.below.size, by simp, fun e => ?_⟩
      rw [hG] at e
      obtain ⟨x, hx, e⟩ := List.mem_map.1 e
      have := hS.lt hx
      omega, rfl⟩) (IsSl.lit (F := Fy F w W G) h.row (fun b hb => by
    rcases hb with hb | hb
    · have := hS.below.size; have := hb.2; omega
    · exact hb.2.1) hl), by have := hS.below.size; simp; omega, fun g e => by
    rw [hG] at e
    obtain ⟨x, hx, rfl⟩ := List.mem_map.1 e
    exact (hS.vars x hx).1⟩
/-- A node of Kids. -/
theorem Sy.join {k : Int} {s : ByteArray} (h : Sy F w W G ds v) (hk : -9223372036854775808 ≤ k ∧ k ≤ 9223372036854775807) (hs : s.size ≤ maxLen) : Ny F w W G (Nd.of k s ds) (.agg #[.int .i64 k, .string s, v]) := ⟨IsNd.join hk hs h.sl, h.size, h.mem⟩
/-- What was handed back, beside the caller's variables. -/
theorem Nx.within {w0 : World} {V : List (Nat × TypeId × Array Value)} (hS : St w0 w V) (hb : Below w.heap.size w W) (h : IsNd W (fun b => (Nf w0 w (V.map (·.1)) b ∧ b < w.heap.size) ∨ New w.heap.size W b) d v) : Nx w0 W (V.map (·.1)) d v :=
  IsNd.keep (fun b hb' => by
    rcases hb' with hb' | hb'
    · exact ⟨⟨hb'.1.1, Nat.lt_of_lt_of_le hb'.2 hb.size, hb'.1.2.2⟩, rfl⟩
    · refine ⟨⟨Nat.le_trans hS.below.size hb'.1, hb'.2, fun e => ?_⟩, rfl⟩
      obtain ⟨x, hx, rfl⟩ := List.mem_map.1 e
      have := hS.lt hx
      have := hb'.1
      omega) _ _ h
end
theorem need_in {l : List Tk} {a : Option Addr} {cap i : Nat} {w : World} {s : ByteArray} (hi : Its w a l) (hlt : i < l.length) (ho : opB (tokAt l i false) s = true) :
    Calls Tryz.prog 89 #[.agg #[.slice a l.length cap, .int .i64 i, .bool false], .string s] w fun e w' => (∃ j : Nat, e = .returned (.agg #[.slice a l.length cap, .int .i64 j, .bool false]) ∧ (i + 1 ≤ j ∧ j ≤ i + 1) ∧ j ≤ l.length ∧ leftP l.length j false < leftP l.length i false) ∧ Below w.heap.size w w' :=
  (need_op (cap := cap) hi (by have := hi.2.1; omega) ho).mono fun _ _ h => ⟨⟨i + 1, h.1, by omega, by omega, left_next hlt⟩, h.2⟩
theorem StepR.one {l : List Tk} {i i' : Nat} {bad bad' : Bool} (h : StepR l i bad i' bad') : (bad' = false ∧ i' = i + 1) ∨ (bad' = true ∧ i' = i) := by
  rcases h with ⟨_, _, h, h'⟩ | ⟨h, h'⟩
  · exact Or.inl ⟨h', h⟩
  · exact Or.inr ⟨h', h⟩
theorem cntL_four (a b c d : Nd) : cntL [a, b, c, d] = a.count + b.count + c.count + d.count := by simp [cntL]; omega
theorem left_b {n i j : Nat} {b : Bool} (h : leftP n i b ≤ leftP n j true) : b = true := by
  cases b with
  | true => rfl
  | false => rw [left_true, left_false] at h; omega
/-- A row that a call made. -/
theorem Hx.made {w w1 w' : World} {v : Value} {ds : List Nd} {V : List (Nat × TypeId × Array Value)} (h : Hx w1 w' [] v ds) (hS : St w w1 V) : Hx w w' (V.map (·.1)) v ds := by
  obtain ⟨xs, h1, -, h3, h4⟩ := h
  have hg : ∀ b, w1.heap.size ≤ b → b ∉ V.map (·.1) := fun b hb e => by
    obtain ⟨x, hx, rfl⟩ := List.mem_map.1 e
    have := hS.lt hx
    omega
  exact ⟨xs, ⟨h1.1, h1.2.imp id fun ⟨g, cap, cur, h1, h2, h3⟩ => ⟨g, cap, cur, h1, Nat.le_trans hS.below.size h2, h3⟩⟩, fun g e => hg g (h1.lt g e).1, h3.keep fun b hb => ⟨⟨⟨Nat.le_trans hS.below.size hb.1.1, hb.1.2.1, hg b hb.1.1⟩, hb.2⟩, rfl⟩, IsRow.nil⟩
theorem tokAt_text {l : List Tk} {i : Nat} {b : Bool} {c : UInt8} {cs : List UInt8} (h : ((tokAt l i b).text.toList == c :: cs) = true) : b = false ∧ i < l.length := by
  have h0 : Tk.no.text.toList = [] := by rw [Lib.toList_data]; rfl
  cases b with
  | true => rw [tokAt_bad, h0] at h; cases h
  | false =>
    by_cases hlt : i < l.length
    · exact ⟨rfl, hlt⟩
    · rw [tokAt_end (by omega), h0] at h; cases h
/-- What 'key' hands back: besides, does it need something behind it? -/
def KN (l : List Tk) (a : Option Addr) (cap : Nat) (w : World) (i : Nat) (bad : Bool) (C : Nat) (e : Ending) (w' : World) : Prop :=
  (∃ (i' : Nat) (bad' : Bool) (d : Nd) (k : Int) (s : ByteArray) (y : Option Addr) (m c : Nat) (mu : Bool), e = .returned (.tuple #[.agg #[.slice a l.length cap, .int .i64 i', .bool bad'], .agg #[.int .i64 k, .string s, .slice y m c], .bool mu]) ∧
    IsNd w' (New w.heap.size w') d (.agg #[.int .i64 k, .string s, .slice y m c]) ∧ (i ≤ i' ∧ i' ≤ l.length ∧ leftP l.length i' bad' ≤ leftP l.length i bad) ∧ d.count + 8 * i ≤ 8 * i' + C) ∧ Below w.heap.size w w'
theorem ended_pnb {fn : Func} {p q r : Tmp} {tmps : Array Value} {W : World} {R : Ending → World → Prop} {g g' : Nat} {x0 x1 x2 y0 y1 y2 z : Value} (hr : fn.results = #[.cell p 86, .cell q 24, .tmp r]) (hp : tmps.getD p undef = .pointer (some ⟨g, 0, none⟩)) (hq : tmps.getD q undef = .pointer (some ⟨g', 0, none⟩)) (hz : tmps.getD r undef = z)
    (h0 : Blk W g 86 #[x0, x1, x2]) (h1 : Blk W g' 24 #[y0, y1, y2]) (hd : R (.returned (.tuple #[.agg #[x0, x1, x2], .agg #[y0, y1, y2], z])) W) : bodyPost Tryz.prog fn R .ret { tmps := tmps, defers := [] } W := by
  refine bodyPost_ret (v := .tuple #[.agg #[x0, x1, x2], .agg #[y0, y1, y2], z]) ?_ rfl hd
  have e0 := run_loadVar_row (P := Tryz.prog) W g 86 86 _ (0, 0) _ h0 Tryz.underlying86 rfl (by kernel_rfl)
  have e1 := run_loadVar_row (P := Tryz.prog) W g' 24 24 _ (0, 0) _ h1 Tryz.underlying24 rfl (by kernel_rfl)
  simp only [Array.getD_eq_getD_getElem?] at hp hq hz
  simp [results, hr, hp, hq, hz, asAddr, e0, e1]
/-- What 'params' hands back: a place, and a row. -/
def LN (l : List Tk) (a : Option Addr) (cap : Nat) (w : World) (i : Nat) (bad : Bool) (e : Ending) (w' : World) : Prop :=
  (∃ (i' : Nat) (bad' : Bool) (ds : List Nd) (y : Option Addr) (m c : Nat), e = .returned (.tuple #[.agg #[.slice a l.length cap, .int .i64 i', .bool bad'], .slice y m c]) ∧
    Hx w w' [] (.slice y m c) ds ∧ (i ≤ i' ∧ i' ≤ l.length ∧ leftP l.length i' bad' ≤ leftP l.length i bad) ∧ cntL ds + 8 * i ≤ 8 * i') ∧ Below w.heap.size w w'
/-- What 'within' hands back. -/
def WN (F : Nat → Prop) (l : List Tk) (a : Option Addr) (cap : Nat) (w : World) (i : Nat) (C : Nat) (e : Ending) (w' : World) : Prop :=
  (∃ (i' : Nat) (bad' : Bool) (d : Nd) (k : Int) (s : ByteArray) (y : Option Addr) (m c : Nat), e = .returned (.tuple #[.agg #[.slice a l.length cap, .int .i64 i', .bool bad'], .agg #[.int .i64 k, .string s, .slice y m c]]) ∧
    IsNd w' (fun b => (F b ∧ b < w.heap.size) ∨ New w.heap.size w' b) d (.agg #[.int .i64 k, .string s, .slice y m c]) ∧ (i ≤ i' ∧ i' ≤ l.length ∧ leftP l.length i' bad' < leftP l.length i false) ∧ d.count + 8 * i ≤ 8 * i' + C) ∧ Below w.heap.size w w'
end Go.Proofs.YtacgmmpdichlmaaGreat
namespace Go.Proofs.YtacgmmpdichlmaaGreat
open Go.RowKit
attribute [local go_sem ↓] Go.wp_at_zero Go.wp_at_succ

set_option maxRecDepth 4000 in
set_option maxHeartbeats 4000000 in
theorem params_k {l : List Tk} {a : Option Addr} {cap : Nat} {i : Nat} {bad : Bool} {w : World} (hi : Its w a l) (hat : i ≤ l.length) : Calls Tryz.prog 92 #[.agg #[.slice a l.length cap, .int .i64 i, .bool bad]] w (LN l a cap w i bad) := by
  have hlen := hi.2.1
  go_enter Tryz.func92, Tryz.ntmps92
  go_wp2_with fail
  refine namedWp fun W1 hW1 => ?_
  have HS1 := onS hW1 (St.nil w).va.va
  clear hW1
  go_loopw [4] (fun z wr => ∃ (x : Nat) (b : Bool) (y : Option Addr) (q c : Nat) (ds : List Nd), z = .slice y q c ∧ St w wr [(w.heap.size, 86, #[.slice a l.length cap, .int .i64 x, .bool b]), (w.heap.size + 1, 86, #[.slice none 0 0, .int .i64 0, .bool false])] ∧ Hx w wr [w.heap.size, w.heap.size + 1] (.slice y q c) ds ∧ (i ≤ x ∧ x ≤ l.length ∧ leftP l.length x b ≤ leftP l.length i bad ∧ cntL ds + 8 * i ≤ 8 * x)) (fun _ wr => leftAt l.length w.heap.size wr)
  case atStart => exact ⟨i, bad, none, 0, 0, [], rfl, HS1.out, Hx.nil _ _ _, by omega, by omega, by omega, by rw [cntL_nil]; omega⟩
  obtain ⟨x, b, y, q, c, ds, rfl, hS, hH, hx1, hx2, hx3, hx4⟩ := hrel
  have hMp := hS.get 0 rfl
  have HSr := hide hS
  have HRk := hide hH
  clear hS hH HS1
  have hcl := len_cntL ds
  have p0 := rD HSr
  go_wp2_with fail
  obtain ⟨t2, ht2⟩ : ∃ t, tokAt l x b = t := ⟨_, rfl⟩
  have hok2 := tokAt_ok hi.2.2 x b
  rw [ht2] at hok2
  obtain ⟨hkb2, hz2, hone2⟩ := hok2
  have HT2 := hide ht2
  clear ht2
  have Hone2 := hide hone2
  clear hone2
  have hfa2 := fieldT0 t2.kind t2.text
  have hfb2 := fieldT1 t2.kind t2.text
  refine (tok_any (hi.below HSr.out.below)).mono ?_
  rintro e w3 ⟨rfl, hb3⟩
  rw [HT2.out]
  have HS3 := hide (HSr.out.call hb3)
  have HRk3 := hide (HRk.out.call hb3)
  clear HRk
  clear hb3 HSr
  clear p0
  have p0 := rD HS3
  go_wp2_with (refine stopAt 8 ?_)
  have lv4 := lV HS3
  refine namedStop fun W4 hW4 => ?_
  have HS4 := onS hW4 HS3.out.va
  have HRk4 := hide (Px.onto hW4 (HRk3.out.var (g := w3.heap.size) (by simp) _))
  clear HRk3
  clear hW4 HS3
  clear p0
  have p0 := rD HS4
  by_cases hk5 : t2.kind = 5
  ·
   have he6 : (t2.kind == 5) = true := by simpa using hk5
   have hn6 : (t2.kind != 5) = false := by simpa using hk5
   have HK6 := hide hk5
   clear hk5
   obtain ⟨rfl, hlt7⟩ := tokAt_kind (l := l) (i := x) (b := b) (by rw [HT2.out, HK6.out]; decide)
   have HRk8 := hide (show Px w W4 [w.heap.size, w.heap.size + 1, w3.heap.size] (.slice y q c) ds [.mk 30 t2.text .nil] [.int .i64 30, .string t2.text, .slice none 0 0] from Px.leaf HRk4.out (by omega) (by simp only [maxLen]; omega))
   clear HRk4
   have lv9 := lV HS4
   have hSt9 : St w W4 [pe w.heap.size a l cap x false, pz (w.heap.size + 1), te w3.heap.size t2] := HS4.out
   have hPx9 : Px w W4 [w.heap.size, w.heap.size + 1, w3.heap.size] (.slice y q c) ds [.mk 30 t2.text .nil] [.int .i64 30, .string t2.text, .slice none 0 0] := HRk8.out
   obtain ⟨v9, w9, hr9, hH9, hS9⟩ := hPx9.snoc hSt9 rfl (by simp only [List.length_cons, List.length_nil]; omega) (by simp)
   simp only [List.length_cons, List.length_nil, Nat.zero_add] at hr9
   obtain ⟨y9, n9, c9, rfl⟩ := hH9.form'
   clear hSt9 hPx9 HS4 HRk8
   have HS9 := hide hS9
   have HRk9 := hide hH9
   clear hS9 hH9
   have rr0 := rD HS9
   go_wp2_with (at_builtin; refine wpList_append_run rfl _ _ (by rfl) (by rfl) (by rfl) (by rfl) hr9 ?_)
   clear hr9 p0
   go_wp2_with fail
   refine (next_in (n := l.length) ⟨_, _, _, rfl⟩ (by omega) hlen).mono ?_
   rintro e w11 ⟨⟨j10, rfl, hj10, hl10, hp10⟩, hb11⟩
   have HS11 := hide (HS9.out.call hb11)
   have HRk11 := hide (HRk9.out.call hb11)
   clear HRk9
   clear hb11 HS9
   clear rr0
   have p0 := rD HS11
   go_wp2_with fail
   refine named fun W12 hW12 => ?_
   have HS12 := onS hW12 (HS11.out.st3 0 rfl _ _ _)
   have HRk12 := hide (Px.onto hW12 (HRk11.out.st3 (by simp) _ _ _))
   clear HRk11
   clear hW12 HS11
   clear p0
   refine (op_any ⟨#[59]⟩ (hi.below HS12.out.below)).mono ?_
   rintro e w13 ⟨rfl, hb13⟩
   have HS13 := hide (HS12.out.call hb13)
   have HRk13 := hide (HRk12.out.call hb13)
   clear HRk12
   clear hb13 HS12
   have p0 := rD HS13
   cases hq14 : opB (tokAt l j10 false) ⟨#[59]⟩
   case false =>
    clear hq14
    go_wp2_with fail
    refine (need_any ⟨#[41]⟩ (hi.below HS13.out.below) (by omega)).mono ?_
    rintro e w16 ⟨⟨i15, bad15, rfl, hr15⟩, hb16⟩
    have HS16 := hide (HS13.out.call hb16)
    have HRk16 := hide (HRk13.out.call hb16)
    clear HRk13
    clear hb16 HS13
    clear p0
    obtain ⟨hi15, hl15, hp15, hj15⟩ := hr15.out (by omega)
    have hq15 := hr15.less (by omega)
    clear hr15
    have p0 := rD HS16
    go_wp2_with fail
    refine namedPost fun W17 hW17 => ?_
    have HS17 := onS hW17 (HS16.out.st3 1 rfl _ _ _)
    have HRk17 := hide (Px.onto hW17 (HRk16.out.st3 (by simp) _ _ _))
    clear HRk16
    clear hW17 HS16
    clear p0
    exact ended_ps rfl rfl rfl (HS17.out.get 1 rfl) ⟨⟨_, _, _, _, _, _, rfl, HRk17.out.fewer (by simp), ⟨by omega, by omega, by omega⟩, by rw [cntL_app, cntL_one, cntLeaf]; omega⟩, HS17.out.below⟩
   have hlt18 := (opB_in hq14).2
   clear hq14
   go_wp2_with fail
   refine (next_in (n := l.length) ⟨_, _, _, rfl⟩ (by omega) hlen).mono ?_
   rintro e w20 ⟨⟨j19, rfl, hj19, hl19, hp19⟩, hb20⟩
   have HS20 := hide (HS13.out.call hb20)
   have HRk20 := hide (HRk13.out.call hb20)
   clear HRk13
   clear hb20 HS13
   clear p0
   have p0 := rD HS20
   go_wp2_with fail
   exact ⟨⟨j19, false, _, _, _, _, rfl, (HS20.out.st3 0 rfl _ _ _).cut 2 rfl, (HRk20.out.st3 (by simp) _ _ _).fewer (by simp), by omega, by omega, by omega, by rw [cntL_app, cntL_one, cntLeaf]; omega⟩, by rw [leftAt_of ((HS20.out.st3 0 rfl _ _ _).get 0 rfl), leftAt_of hMp]; omega⟩
  have he21 : (t2.kind == 5) = false := by simpa using hk5
  have hn21 : (t2.kind != 5) = true := by simpa using hk5
  clear hk5
  by_cases hk22 : t2.kind = 3
  ·
   have he23 : (t2.kind == 3) = true := by simpa using hk22
   have hn23 : (t2.kind != 3) = false := by simpa using hk22
   have HK23 := hide hk22
   clear hk22
   obtain ⟨rfl, hlt24⟩ := tokAt_kind (l := l) (i := x) (b := b) (by rw [HT2.out, HK23.out]; decide)
   go_wp2_with fail
   refine (plainName_any _ _ hz2).mono ?_
   rintro e w25 ⟨⟨pb, rfl⟩, hb25⟩
   have HS25 := hide (HS4.out.call hb25)
   have HRk25 := hide (HRk4.out.call hb25)
   clear HRk4
   clear hb25 HS4
   clear p0
   have p0 := rD HS25
   cases pb
   case true =>
    have HRk26 := hide (show Px w w25 [w.heap.size, w.heap.size + 1, w3.heap.size] (.slice y q c) ds [.mk 30 t2.text .nil] [.int .i64 30, .string t2.text, .slice none 0 0] from Px.leaf HRk25.out (by omega) (by simp only [maxLen]; omega))
    clear HRk25
    have lv27 := lV HS25
    have hSt27 : St w w25 [pe w.heap.size a l cap x false, pz (w.heap.size + 1), te w3.heap.size t2] := HS25.out
    have hPx27 : Px w w25 [w.heap.size, w.heap.size + 1, w3.heap.size] (.slice y q c) ds [.mk 30 t2.text .nil] [.int .i64 30, .string t2.text, .slice none 0 0] := HRk26.out
    obtain ⟨v27, w27, hr27, hH27, hS27⟩ := hPx27.snoc hSt27 rfl (by simp only [List.length_cons, List.length_nil]; omega) (by simp)
    simp only [List.length_cons, List.length_nil, Nat.zero_add] at hr27
    obtain ⟨y27, n27, c27, rfl⟩ := hH27.form'
    clear hSt27 hPx27 HS25 HRk26
    have HS27 := hide hS27
    have HRk27 := hide hH27
    clear hS27 hH27
    have rr0 := rD HS27
    go_wp2_with (at_builtin; refine wpList_append_run rfl _ _ (by rfl) (by rfl) (by rfl) (by rfl) hr27 ?_)
    clear hr27 p0
    go_wp2_with fail
    refine (next_in (n := l.length) ⟨_, _, _, rfl⟩ (by omega) hlen).mono ?_
    rintro e w29 ⟨⟨j28, rfl, hj28, hl28, hp28⟩, hb29⟩
    have HS29 := hide (HS27.out.call hb29)
    have HRk29 := hide (HRk27.out.call hb29)
    clear HRk27
    clear hb29 HS27
    clear rr0
    have p0 := rD HS29
    go_wp2_with fail
    refine named fun W30 hW30 => ?_
    have HS30 := onS hW30 (HS29.out.st3 0 rfl _ _ _)
    have HRk30 := hide (Px.onto hW30 (HRk29.out.st3 (by simp) _ _ _))
    clear HRk29
    clear hW30 HS29
    clear p0
    refine (op_any ⟨#[59]⟩ (hi.below HS30.out.below)).mono ?_
    rintro e w31 ⟨rfl, hb31⟩
    have HS31 := hide (HS30.out.call hb31)
    have HRk31 := hide (HRk30.out.call hb31)
    clear HRk30
    clear hb31 HS30
    have p0 := rD HS31
    cases hq32 : opB (tokAt l j28 false) ⟨#[59]⟩
    case false =>
     clear hq32
     go_wp2_with fail
     refine (need_any ⟨#[41]⟩ (hi.below HS31.out.below) (by omega)).mono ?_
     rintro e w34 ⟨⟨i33, bad33, rfl, hr33⟩, hb34⟩
     have HS34 := hide (HS31.out.call hb34)
     have HRk34 := hide (HRk31.out.call hb34)
     clear HRk31
     clear hb34 HS31
     clear p0
     obtain ⟨hi33, hl33, hp33, hj33⟩ := hr33.out (by omega)
     have hq33 := hr33.less (by omega)
     clear hr33
     have p0 := rD HS34
     go_wp2_with fail
     refine namedPost fun W35 hW35 => ?_
     have HS35 := onS hW35 (HS34.out.st3 1 rfl _ _ _)
     have HRk35 := hide (Px.onto hW35 (HRk34.out.st3 (by simp) _ _ _))
     clear HRk34
     clear hW35 HS34
     clear p0
     exact ended_ps rfl rfl rfl (HS35.out.get 1 rfl) ⟨⟨_, _, _, _, _, _, rfl, HRk35.out.fewer (by simp), ⟨by omega, by omega, by omega⟩, by rw [cntL_app, cntL_one, cntLeaf]; omega⟩, HS35.out.below⟩
    have hlt36 := (opB_in hq32).2
    clear hq32
    go_wp2_with fail
    refine (next_in (n := l.length) ⟨_, _, _, rfl⟩ (by omega) hlen).mono ?_
    rintro e w38 ⟨⟨j37, rfl, hj37, hl37, hp37⟩, hb38⟩
    have HS38 := hide (HS31.out.call hb38)
    have HRk38 := hide (HRk31.out.call hb38)
    clear HRk31
    clear hb38 HS31
    clear p0
    have p0 := rD HS38
    go_wp2_with fail
    exact ⟨⟨j37, false, _, _, _, _, rfl, (HS38.out.st3 0 rfl _ _ _).cut 2 rfl, (HRk38.out.st3 (by simp) _ _ _).fewer (by simp), by omega, by omega, by omega, by rw [cntL_app, cntL_one, cntLeaf]; omega⟩, by rw [leftAt_of ((HS38.out.st3 0 rfl _ _ _).get 0 rfl), leftAt_of hMp]; omega⟩
   go_wp2_with fail
   refine (wrong_any _ _ _ _ ⟨_, _, _, rfl⟩).mono ?_
   rintro e w40 ⟨rfl, hb40⟩
   have HS40 := hide (HS25.out.call hb40)
   have HRk40 := hide (HRk25.out.call hb40)
   clear HRk25
   clear hb40 HS25
   clear p0
   have p0 := rD HS40
   go_wp2_with fail
   have hwr39 := left_wrong l.length x false
   refine namedPost fun W41 hW41 => ?_
   have HS41 := onS hW41 (HS40.out.st3 1 rfl _ _ _)
   have HRk41 := hide (Px.onto hW41 (HRk40.out.st3 (by simp) _ _ _))
   clear HRk40
   clear hW41 HS40
   clear p0
   exact ended_ps rfl rfl rfl (HS41.out.get 1 rfl) ⟨⟨_, _, _, _, _, _, rfl, HRk41.out.fewer (by simp), ⟨by omega, by omega, by omega⟩, by omega⟩, HS41.out.below⟩
  have he42 : (t2.kind == 3) = false := by simpa using hk22
  have hn42 : (t2.kind != 3) = true := by simpa using hk22
  clear hk22
  go_wp2_with fail
  refine (wrong_any _ _ _ _ ⟨_, _, _, rfl⟩).mono ?_
  rintro e w44 ⟨rfl, hb44⟩
  have HS44 := hide (HS4.out.call hb44)
  have HRk44 := hide (HRk4.out.call hb44)
  clear HRk4
  clear hb44 HS4
  clear p0
  have p0 := rD HS44
  go_wp2_with fail
  have hwr43 := left_wrong l.length x b
  refine namedPost fun W45 hW45 => ?_
  have HS45 := onS hW45 (HS44.out.st3 1 rfl _ _ _)
  have HRk45 := hide (Px.onto hW45 (HRk44.out.st3 (by simp) _ _ _))
  clear HRk44
  clear hW45 HS44
  clear p0
  exact ended_ps rfl rfl rfl (HS45.out.get 1 rfl) ⟨⟨_, _, _, _, _, _, rfl, HRk45.out.fewer (by simp), ⟨by omega, by omega, by omega⟩, by omega⟩, HS45.out.below⟩
end Go.Proofs.YtacgmmpdichlmaaGreat
namespace Go.Proofs.YtacgmmpdichlmaaGreat
open Go.RowKit
attribute [local go_sem ↓] Go.wp_at_zero Go.wp_at_succ

set_option maxRecDepth 4000 in
set_option maxHeartbeats 4000000 in
theorem pipe_k {l : List Tk} {a : Option Addr} {cap m : Nat} (K : Kn l a cap m) (hexp : ∀ ⦃i : Nat⦄ ⦃bad : Bool⦄ ⦃w : World⦄ (x : Nat), Its w a l → i ≤ l.length → leftP l.length i bad ≤ m → Calls Tryz.prog 93 #[.agg #[.slice a l.length cap, .int .i64 i, .bool bad], .int .i64 x] w (PN l a cap w i bad 2)) {i : Nat} {bad : Bool} {w : World} (hi : Its w a l) (hat : i ≤ l.length) (hm : leftP l.length i bad ≤ m) : Calls Tryz.prog 72 #[.agg #[.slice a l.length cap, .int .i64 i, .bool bad]] w (PN l a cap w i bad 2) := by
  have HK := hide K
  have hlen := hi.2.1
  clear K
  have Hexp := hide hexp
  clear hexp
  go_enter Tryz.func72, Tryz.ntmps72
  go_wp2_with fail
  refine named fun W1 hW1 => ?_
  have HS1 := onS hW1 (St.nil w).va.va.va
  clear hW1
  refine (Hexp.out 1 (hi.below HS1.out.below) (by omega) (by omega)).mono ?_
  rintro e w2 ⟨⟨i2, bad2, d2, k2, s2, y2, m2, c2, rfl, hn2, ⟨hi2, hl2, hp2⟩, hc2⟩, hb2⟩
  have HS2 := hide (HS1.out.call hb2)
  have HNn2 := hide (show Nx w w2 [w.heap.size, w.heap.size + 1, w.heap.size + 1 + 1] _ _ from Nx.made hn2 HS1.out)
  clear hn2 hb2 HS1
  have p0 := rD HS2
  go_wp2_with fail
  have lv3 := lV HS2
  refine namedWp fun W3 hW3 => ?_
  have HS3 := onS hW3 HS2.out.va.va
  have HNn3 := hide (Nx.onto hW3 ((HNn2.out.var (g := w2.heap.size) (by simp) _).var (g := w2.heap.size + 1) (by simp) _))
  clear HNn2
  clear hW3 HS2
  clear p0
  refine rgn HS3.out [3, 4] fun W4 hW4 => ?_
  have HS4 := hide (St.onto hW4 HS3.out.dr)
  have HNn4 := hide (Nx.onto hW4 HNn3.out.dr)
  clear HNn3
  clear hW4 HS3
  refine tK 0 (kS HS4.out [3, 4]) ?_
  refine tK 1 (kS HS4.out [3, 4]) ?_
  refine rY 2 fun K hK => ?_
  have p1 := rG HS4 1
  go_simp
  refine onW hK (kS (HS4.out.st3 1 rfl _ _ _) [3, 4]) fun W5 hW5 => ?_
  clear hK K
  have HS5 := onS hW5 (HS4.out.st3 1 rfl _ _ _)
  have HNn5 := hide (Nx.onto hW5 (HNn4.out.st3 (by simp) _ _ _))
  clear HNn4
  clear hW5 HS4
  clear p1
  refine rY 3 fun K hK => ?_
  have p2 := rG HS5 2
  go_simp
  refine onW hK (kS (HS5.out.st3 2 rfl _ _ _) [3, 4]) fun W6 hW6 => ?_
  clear hK K
  have HS6 := onS hW6 (HS5.out.st3 2 rfl _ _ _)
  have HNn6 := hide (Nx.onto hW6 (HNn5.out.st3 (by simp) _ _ _))
  clear HNn5
  clear hW6 HS5
  clear p2
  refine wpAnyH_done (by kernel_rfl) ?_ _
  go_wp2_with fail
  refine namedPost fun W7 hW7 => ?_
  have HS7 := hide (St.onto hW7 HS6.out)
  have HNn7 := hide (Nx.onto hW7 HNn6.out)
  clear HNn6
  clear hW7 HS6
  exact ended_pn rfl rfl rfl (HS7.out.get 1 rfl) (HS7.out.get 2 rfl) ⟨⟨_, _, _, _, _, _, _, _, rfl, HNn7.out.out, ⟨by omega, by omega, by omega⟩, by omega⟩, HS7.out.below⟩
end Go.Proofs.YtacgmmpdichlmaaGreat
namespace Go.Proofs.YtacgmmpdichlmaaGreat
open Go.RowKit
attribute [local go_sem ↓] Go.wp_at_zero Go.wp_at_succ

set_option maxRecDepth 100000 in
set_option maxHeartbeats 4000000 in
theorem deep_any {l : List Tk} {a : Option Addr} {cap : Nat} {w : World} (hi : Its w a l) :
    Calls Tryz.prog 57 #[.slice a l.length cap] w fun e w' => (∃ r : Int, e = .returned (.int .i64 r) ∧ -1 ≤ r ∧ r < l.length ∧ (l.length ≤ 256 → r = -1)) ∧ Below w.heap.size w w' := by
  have hlen := hi.2.1
  go_enter Tryz.func57, Tryz.ntmps57
  go_wp2_with fail
  go_loopw [3, 4] (fun n i wr => ∃ (k nn : Nat), n = .int .i64 nn ∧ i = .int .i64 k ∧ nn ≤ k ∧ nn ≤ 256 ∧ k ≤ l.length ∧ Below w.heap.size w wr) (fun _ i _ => l.length - (intOf i).toNat)
  case atStart => exact ⟨0, 0, rfl, rfl, by omega, by omega, by omega, Below.refl _ _⟩
  case round =>
    obtain ⟨k, nn, rfl, rfl, hk1, hk2, hk3, hb⟩ := hrel
    by_cases hlt : k < l.length
    · obtain ⟨b, o, rfl, hF, h0, h1⟩ := (hi.1).get hlt
      replace h0 := (hb.cell (p := ⟨b, o + k * 4, none⟩) hF).trans h0
      replace h1 := (hb.cell (p := ⟨b, o + k * 4 + 1, none⟩) hF).trans h1
      obtain ⟨t, ht⟩ : ∃ t, t = l[k] := ⟨_, rfl⟩
      rw [← ht] at h0 h1
      clear ht
      have hB1 := fun o => bl_al hb o
      have HB := hide hb
      clear hb
      by_cases h9 : t.kind = 9
      ·
        have e9 : (t.kind == 9) = true := by simpa using h9
        have e10 : (t.kind == 10) = false := by rw [h9]; rfl
        have e13 : (t.kind == 13) = false := by rw [h9]; rfl
        clear h9
        by_cases h256 : nn < 256
        · go_wp2_with fail
          go_roundw
          case rel => exact ⟨k + 1, nn + 1, by go_num, by go_num, by omega, by omega, by omega, hB1 _⟩
          case measure => simp [intOf]; omega
        · obtain rfl : nn = 256 := by omega
          go_wp2_with fail
          go_ret
          exact ⟨⟨_, rfl, by omega, by omega, fun h => by omega⟩, hB1 _⟩
      have e9 : (t.kind == 9) = false := by simpa using h9
      clear h9
      by_cases h10 : t.kind = 10
      ·
        have e10 : (t.kind == 10) = true := by simpa using h10
        have e13 : (t.kind == 13) = false := by rw [h10]; rfl
        clear h10
        go_wp2_with fail
        go_roundw
        case rel => exact ⟨k + 1, nn - 1, by simp; omega, by go_num, by omega, by omega, by omega, hB1 _⟩
        case measure => simp [intOf]; omega
      have e10 : (t.kind == 10) = false := by simpa using h10
      clear h10
      by_cases h13 : t.kind = 13
      ·
        have e13 : (t.kind == 13) = true := by simpa using h13
        clear h13
        cases q0 : (t.text.toList == [40]) with
        | true =>
          by_cases h256 : nn < 256
          · go_wp2_with fail
            go_roundw
            case rel => exact ⟨k + 1, nn + 1, by go_num, by go_num, by omega, by omega, by omega, hB1 _⟩
            case measure => simp [intOf]; omega
          · obtain rfl : nn = 256 := by omega
            go_wp2_with fail
            go_ret
            exact ⟨⟨_, rfl, by omega, by omega, fun h => by omega⟩, hB1 _⟩
        | false =>
          cases q1 : (t.text.toList == [91]) with
          | true =>
            by_cases h256 : nn < 256
            · go_wp2_with fail
              go_roundw
              case rel => exact ⟨k + 1, nn + 1, by go_num, by go_num, by omega, by omega, by omega, hB1 _⟩
              case measure => simp [intOf]; omega
            · obtain rfl : nn = 256 := by omega
              go_wp2_with fail
              go_ret
              exact ⟨⟨_, rfl, by omega, by omega, fun h => by omega⟩, hB1 _⟩
          | false =>
            cases q2 : (t.text.toList == [123]) with
            | true =>
              by_cases h256 : nn < 256
              · go_wp2_with fail
                go_roundw
                case rel => exact ⟨k + 1, nn + 1, by go_num, by go_num, by omega, by omega, by omega, hB1 _⟩
                case measure => simp [intOf]; omega
              · obtain rfl : nn = 256 := by omega
                go_wp2_with fail
                go_ret
                exact ⟨⟨_, rfl, by omega, by omega, fun h => by omega⟩, hB1 _⟩
            | false =>
              cases q3 : (t.text.toList == [41]) with
              | true =>
                go_wp2_with fail
                go_roundw
                case rel => exact ⟨k + 1, nn - 1, by simp; omega, by go_num, by omega, by omega, by omega, hB1 _⟩
                case measure => simp [intOf]; omega
              | false =>
                cases q4 : (t.text.toList == [93]) with
                | true =>
                  go_wp2_with fail
                  go_roundw
                  case rel => exact ⟨k + 1, nn - 1, by simp; omega, by go_num, by omega, by omega, by omega, hB1 _⟩
                  case measure => simp [intOf]; omega
                | false =>
                  cases q5 : (t.text.toList == [125]) with
                  | true =>
                    go_wp2_with fail
                    go_roundw
                    case rel => exact ⟨k + 1, nn - 1, by simp; omega, by go_num, by omega, by omega, by omega, hB1 _⟩
                    case measure => simp [intOf]; omega
                  | false =>
                    go_wp2_with fail
                    go_roundw
                    case rel => exact ⟨k + 1, nn, by go_num, by go_num, by omega, by omega, by omega, hB1 _⟩
                    case measure => simp [intOf]; omega
      have e13 : (t.kind == 13) = false := by simpa using h13
      clear h13
      go_wp2_with fail
      go_roundw
      case rel => exact ⟨k + 1, nn, by go_num, by go_num, by omega, by omega, by omega, hB1 _⟩
      case measure => simp [intOf]; omega
    · go_wp2_with fail
      go_ret
      exact ⟨⟨-1, rfl, by omega, by omega, fun _ => rfl⟩, hb⟩
end Go.Proofs.YtacgmmpdichlmaaGreat
