/-
  Rows of paths; the reference's Paths. Its conditions: the value reads as a node, of at most 900000 nodes.
-/
import Derived.Test.YtacgmmpdichlmaaGreatM03
import Derived.Test.YtacgmmpdichlmaaGreatM00
import Derived.Test.YtacgmmpdichlmaaGreatM26
namespace Go.Proofs.YtacgmmpdichlmaaGreat
open Go.RowKit
attribute [local go_sem ↓] Go.wp_at_zero Go.wp_at_succ

theorem infoPath : (Tryz.prog.info? 25).map (fun i => (i.zero, i.size, i.bytes)) = some (some (.slice none 0 0), 1, 24) := by kernel_rfl
/-- The slice reads as the paths. -/
def IsPaths (w : World) (F : Nat → Prop) (v : Value) (ps : List (List Int)) : Prop :=
  ∃ a c, v = .slice a ps.length c ∧ ps.length ≤ maxLen ∧ (ps ≠ [] → ∃ b o, a = some ⟨b, o, none⟩ ∧ F b ∧ ∀ (k : Nat) (p : List Int), ps[k]? = some p → ∃ u, w.cell? ⟨b, o + k, none⟩ = some u ∧ IsPath w F u p)
theorem IsPaths.keep {w w' : World} {F F' : Nat → Prop} (hF : ∀ b, F b → F' b ∧ w'.heap[b]? = w.heap[b]?) {v : Value} {ps : List (List Int)} (h : IsPaths w F v ps) : IsPaths w' F' v ps := by
  obtain ⟨a, c, h1, h2, h3⟩ := h
  refine ⟨a, c, h1, h2, fun hne => ?_⟩
  obtain ⟨b, o, ha, hb, hc⟩ := h3 hne
  refine ⟨b, o, ha, (hF b hb).1, fun k p hp => ?_⟩
  obtain ⟨u, hu, hu2⟩ := hc k p hp
  exact ⟨u, (World.cell?_of_block (w := w) (a := ⟨b, o + k, none⟩) (hF b hb).2).trans hu, hu2.keep hF⟩
theorem IsPaths.get {w : World} {F : Nat → Prop} {a : Option Addr} {m c : Nat} {ps : List (List Int)} (h : IsPaths w F (.slice a m c) ps) {q : Nat} (hq : q < ps.length) : ∃ b o u, a = some ⟨b, o, none⟩ ∧ F b ∧ w.cell? ⟨b, o + q, none⟩ = some u ∧ IsPath w F u ps[q] := by
  obtain ⟨a', c', hv, _, h3⟩ := h
  cases hv
  obtain ⟨b, o, ha, hb, hc⟩ := h3 (by rintro rfl; simp at hq)
  obtain ⟨u, hu, hu2⟩ := hc q _ (List.getElem?_eq_getElem hq)
  exact ⟨b, o, u, ha, hb, hu, hu2⟩
theorem IsPath.nil {w : World} {F : Nat → Prop} : IsPath w F (.slice none 0 0) [] := ⟨none, 0, rfl, ⟨Nat.zero_le _, Nat.le_refl _⟩, fun h => absurd rfl h⟩
theorem IsPath.of_own {w : World} {B n : Nat} {v : Value} {p : List Int} (h : w.ownsRow B 3 1 v n (p.map fun z => .int .i64 z)) : IsPath w (New B w) v p := by
  have hl := h.1
  rw [List.length_map, Nat.mul_one] at hl
  subst hl
  rcases h.2 with ⟨rfl, hn⟩ | ⟨g, cap, cur, rfl, hb, hg, hnc, hcm, _⟩
  · have : p = [] := List.eq_nil_of_length_eq_zero hn
    subst this
    exact IsPath.nil
  · refine ⟨some ⟨g, 0, none⟩, cap, rfl, by omega, fun _ => ⟨g, 0, rfl, ⟨hb, (Array.getElem?_eq_some_iff.1 hg).1⟩, fun k x hx => ?_⟩⟩
    have hk := (List.getElem?_eq_some_iff.1 hx).1
    rw [Nat.zero_add, h.cellAt k (by omega), List.getElem?_map, hx]
    rfl
/-- 'append([]int{i}, p...)'. -/
theorem cons_path {w : World} (i : Int) {u : Value} {p : List Int} (h : IsPath w (· < w.heap.size) u p) (hl : p.length ≤ 900000) :
    ∃ a c w2, (Builtin.append_ #[25, 25] 25 #[.slice (some ⟨w.heap.size, 0, none⟩) 1 1, u]).run Tryz.prog (w.alloc (.cells #[.int .i64 i] 3)) = .ok (.slice a (p.length + 1) c) w2 ∧ IsPath w2 (New w.heap.size w2) (.slice a (p.length + 1) c) (i :: p) ∧ Below w.heap.size w w2 := by
  have hown : (w.alloc (.cells #[.int .i64 i] 3)).ownsRow w.heap.size 3 1 (.slice (some ⟨w.heap.size, 0, none⟩) 1 1) 1 [.int .i64 i] :=
    ⟨rfl, .inr ⟨w.heap.size, 1, #[.int .i64 i], rfl, Nat.le_refl _, heap_alloc_new w _, Nat.le_refl _, by decide, rfl, rfl⟩⟩
  have hbw : Below w.heap.size w (w.alloc (.cells #[.int .i64 i] 3)) := (Below.refl _ w).alloc (Nat.le_refl _) _
  obtain ⟨a, c, rfl, hpl, hp⟩ := h
  by_cases hne : p = []
  · subst hne
    exact ⟨_, _, _, app_none Tryz.underlying25 infoInt _ a c _ hown, IsPath.of_own (p := [i]) hown, hbw⟩
  · obtain ⟨b, o, rfl, hb, hc⟩ := hp hne
    have hpos : 0 < p.length := List.length_pos_iff.2 hne
    obtain ⟨v', w', hr, hown', hg, hblk⟩ := app_run (ty := 25) Tryz.underlying25 infoInt rfl (by decide) (by decide) hown b o p.length c (p.map fun z => .int .i64 z) (by rw [List.length_map]; omega) (fun j x hx => by
      rw [List.getElem?_map] at hx
      obtain ⟨z, hz, rfl⟩ := Option.map_eq_some_iff.1 hx
      exact (hbw.cell (p := ⟨b, o + j, none⟩) hb).trans (hc j z hz)) (by simp [Value.oneCell']) (by omega) hpos (by simp)
    have hown2 : w'.ownsRow w.heap.size 3 1 v' (p.length + 1) ((i :: p).map fun z => .int .i64 z) := by
      rw [show p.length + 1 = 1 + p.length by omega]; exact hown'
    obtain ⟨a', c', rfl⟩ := own_form hown2
    exact ⟨a', c', w', hr, IsPath.of_own hown2, hbw.grown hg (by simp) (fun r hr => (hown.lt r hr).1)⟩

/-- The paths of a row that is made since block B. -/
def PHeld (B : Nat) (v : Value) (ps : List (List Int)) (w : World) : Prop := ∃ xs, w.ownsRow B 25 1 v ps.length xs ∧ ∀ (k : Nat) (p : List Int), ps[k]? = some p → ∃ u, xs[k]? = some u ∧ IsPath w (Away B v w) u p
theorem PHeld.form {B : Nat} {v : Value} {ps : List (List Int)} {w : World} (h : PHeld B v ps w) : ∃ a c, v = .slice a ps.length c := by
  obtain ⟨xs, h1, _⟩ := h
  exact own_form h1
theorem PHeld.nil (B : Nat) (w : World) : PHeld B (.slice none 0 0) [] w := ⟨[], World.ownsRow_nil _ _ _ _, fun k p h => by simp at h⟩
theorem PHeld.below {B : Nat} {v : Value} {ps : List (List Int)} {w w' : World} (h : PHeld B v ps w) (hb : Below w.heap.size w w') : PHeld B v ps w' := by
  obtain ⟨xs, h1, h2⟩ := h
  refine ⟨xs, own_below h1 hb, fun k p hp => ?_⟩
  obtain ⟨u, hu, hu2⟩ := h2 k p hp
  exact ⟨u, hu, hu2.keep fun b hb' => ⟨⟨hb'.1, Nat.lt_of_lt_of_le hb'.2.1 hb.size, hb'.2.2⟩, hb.block b hb'.2.1⟩⟩
/-- A path that a call made is away from the row. -/
theorem PHeld.away {B : Nat} {v u : Value} {ps : List (List Int)} {p : List Int} {w w' : World} (h : PHeld B v ps w) (hB : B ≤ w.heap.size) (hu : IsPath w' (New w.heap.size w') u p) : IsPath w' (Away B v w') u p := by
  obtain ⟨xs, h1, _⟩ := h
  exact hu.keep fun b hb => ⟨⟨Nat.le_trans hB hb.1, hb.2, fun e => by have := (h1.lt b e).2; have := hb.1; omega⟩, rfl⟩
theorem PHeld.snoc {B : Nat} {v u : Value} {ps : List (List Int)} {p : List Int} {w : World} (h : PHeld B v ps w) (hu : IsPath w (Away B v w) u p) (hl : ps.length + 1 ≤ 1000000) (hB : B ≤ w.heap.size) :
    ∃ a c w', (Builtin.append_ #[41, 41] 41 #[v, .slice (some ⟨w.heap.size, 0, none⟩) 1 1]).run Tryz.prog (w.alloc (.cells #[u] 25)) = .ok (.slice a (ps.length + 1) c) w' ∧ PHeld B (.slice a (ps.length + 1) c) (ps ++ [p]) w' ∧ Below B w w' ∧ w.grownBy w' v.ownBlock ∧ (∃ xs, w.ownsRow B 25 1 v ps.length xs) ∧ (∀ g, (Value.slice a (ps.length + 1) c).ownBlock = some g → v.ownBlock = some g ∨ w.heap.size ≤ g) := by
  obtain ⟨xs, h1, h2⟩ := h
  have hb := Blk.new w 25 #[u]
  have hone : u.oneCell' = true := by obtain ⟨a, c, rfl, _⟩ := hu; rfl
  obtain ⟨v', w', hr, hown, hg, hblk⟩ := app_run (ty := 41) Tryz.underlying41 infoPath rfl (by decide) (by decide) (h1.alloc (.cells #[u] 25)) w.heap.size 0 1 1 [u] rfl (fun j x hx => by rw [Nat.zero_add, hb.cell j]; simpa using hx) (by simpa using hone) hl (by decide) (by simp; omega)
  have hsz := hg.size
  simp at hsz
  have hkeep : ∀ b, Away B v w b → Away B v' w' b ∧ w'.heap[b]? = w.heap[b]? := fun b hb' => by
    refine ⟨⟨hb'.1, by have := hb'.2.1; omega, fun e => ?_⟩, (hg.block b (by have := hb'.2.1; simp; omega) (fun e => hb'.2.2 e.symm)).trans (Below.heap_alloc w _ b hb'.2.1)⟩
    rcases hblk b e with h | h
    · exact hb'.2.2 h
    · have := hb'.2.1
      simp at h
      omega
  obtain ⟨a, c, rfl⟩ := own_form hown
  refine ⟨a, c, w', hr, ⟨xs ++ [u], by rw [List.length_append]; exact hown, fun k q hq => ?_⟩, ((Below.refl B w).alloc hB _).grown hg (by simp; omega) (fun r hr => (h1.lt r hr).1), ⟨hg.os, hg.tape, hg.output, by omega, fun k hk hne => (hg.block k (by simp; omega) hne).trans (Below.heap_alloc w _ k hk)⟩, ⟨xs, h1⟩, fun g hg => (hblk g hg).imp id fun h => by simp at h; omega⟩
  have hx : xs.length = ps.length := by have := h1.1; omega
  rcases Nat.lt_or_ge k ps.length with hlt | hge
  · rw [List.getElem?_append_left hlt] at hq
    obtain ⟨u', hu', hu2⟩ := h2 k q hq
    exact ⟨u', by rw [List.getElem?_append_left (by omega)]; exact hu', hu2.keep hkeep⟩
  · have hk : k = ps.length := by
      have := (List.getElem?_eq_some_iff.1 hq).1
      simp at this
      omega
    subst hk
    obtain rfl : p = q := by simpa using hq
    exact ⟨u, by rw [List.getElem?_append_right (by omega), hx, Nat.sub_self]; rfl, hu.keep hkeep⟩
theorem PHeld.out {B : Nat} {v : Value} {ps : List (List Int)} {w : World} (h : PHeld B v ps w) : IsPaths w (New B w) v ps := by
  obtain ⟨xs, h1, h2⟩ := h
  rcases h1.2 with ⟨rfl, hn⟩ | ⟨g, cap, cur, rfl, hb, hg, hnc, hcm, _⟩
  · exact ⟨none, 0, by rw [hn], by omega, fun hne => absurd (List.eq_nil_of_length_eq_zero hn) hne⟩
  · refine ⟨some ⟨g, 0, none⟩, cap, rfl, by omega, fun _ => ⟨g, 0, rfl, ⟨hb, (Array.getElem?_eq_some_iff.1 hg).1⟩, fun k p hp => ?_⟩⟩
    obtain ⟨u, hu, hu2⟩ := h2 k p hp
    have hk := (List.getElem?_eq_some_iff.1 hp).1
    exact ⟨u, by rw [Nat.zero_add, h1.cellAt k (by omega), hu], hu2.keep fun b hb => ⟨⟨hb.1, hb.2.1⟩, rfl⟩⟩
/-- Variables stay where the row of paths grows. -/
theorem St.phg {w W W' : World} {V : List (Nat × TypeId × Array Value)} {v : Value} {n : Nat} {xs : List Value} (h : St w W V) (hg : W.grownBy W' v.ownBlock) (hown : W.ownsRow w.heap.size 25 1 v n xs) (ht : ∀ x ∈ V, x.2.1 ≠ 25) : St w W' V :=
  ⟨h.below.grown hg h.below.size (fun r hr => (hown.lt r hr).1), fun x hx => ⟨(h.vars x hx).1, (h.vars x hx).2.grown hg (fun e => own_blk_ne hown (h.vars x hx).2 (fun e' => ht x hx e'.symm) e.symm)⟩, h.nodup⟩

def pathsL : Nat → List Nd → List (List Int)
  | _, [] => []
  | i, d :: r => (pathsN d).map ((i : Int) :: ·) ++ pathsL (i + 1) r
theorem pathsNs_L : ∀ (ks : Nds) (i : Nat), pathsNs i ks = pathsL i ks.toL
  | .nil, i => by rw [pathsNs, Nds.toL, pathsL]
  | .cons d r, i => by rw [pathsNs, Nds.toL, pathsL, pathsNs_L r]
theorem pathsL_append : ∀ (a b : List Nd) (i : Nat), pathsL i (a ++ b) = pathsL i a ++ pathsL (i + a.length) b
  | [], b, i => by simp [pathsL]
  | d :: a, b, i => by rw [List.cons_append, pathsL, pathsL, pathsL_append a b, List.append_assoc, List.length_cons, show i + 1 + a.length = i + (a.length + 1) by omega]
theorem pathsL_take {ds : List Nd} {q : Nat} (h : q < ds.length) : pathsL 0 (ds.take (q + 1)) = pathsL 0 (ds.take q) ++ (pathsN ds[q]).map ((q : Int) :: ·) := by
  rw [List.take_succ_eq_append_getElem h, pathsL_append, List.length_take, Nat.min_eq_left (by omega), pathsL, pathsL, List.append_nil, Nat.zero_add]
mutual
theorem pathsN_len : ∀ d : Nd, (pathsN d).length = d.count
  | .mk k s ks => by rw [pathsN, Nd.count, List.length_cons, pathsNs_len ks 0]; omega
theorem pathsNs_len : ∀ (ks : Nds) (i : Nat), (pathsNs i ks).length = ks.count
  | .nil, i => by rw [pathsNs]; rfl
  | .cons d r, i => by rw [pathsNs, List.length_append, List.length_map, pathsN_len d, pathsNs_len r, Nds.count]
end
mutual
theorem pathsN_short : ∀ (d : Nd) (p : List Int), p ∈ pathsN d → p.length < d.count
  | .mk k s ks, p, h => by
    rw [pathsN, List.mem_cons] at h
    rw [Nd.count]
    rcases h with rfl | h
    · simp; omega
    · have := pathsNs_short ks 0 p h
      omega
theorem pathsNs_short : ∀ (ks : Nds) (i : Nat) (p : List Int), p ∈ pathsNs i ks → p.length < ks.count + 1
  | .nil, i, p, h => by rw [pathsNs] at h; cases h
  | .cons d r, i, p, h => by
    rw [pathsNs, List.mem_append, List.mem_map] at h
    rw [Nds.count]
    rcases h with ⟨q, hq, rfl⟩ | h
    · have := pathsN_short d q hq
      simp; omega
    · have := pathsNs_short r (i + 1) p h
      omega
end
def PathsP (w : World) (ps : List (List Int)) (e : Ending) (w' : World) : Prop := ∃ a c, e = .returned (.slice a ps.length c) ∧ IsPaths w' (New w.heap.size w') (.slice a ps.length c) ps ∧ Below w.heap.size w w'
def PathsOk (d : Nd) : Prop := ∀ (v : Value) (w : World), Is w d v → d.count ≤ 900000 → Calls Tryz.prog 32 #[v] w (PathsP w (pathsN d))
set_option maxRecDepth 100000 in
set_option maxHeartbeats 4000000 in
theorem paths_any (d : Nd) : PathsOk d := by
  refine Nd.ind_ (P := PathsOk) ?_ d
  intro k s ks IH v w hD hcnt
  have hpn : pathsN (.mk k s ks) = [] :: pathsL 0 ks.toL := by rw [pathsN, pathsNs_L]
  have hpl : (pathsL 0 ks.toL).length ≤ 900000 := by
    have := pathsN_len (.mk k s ks)
    rw [hpn, List.length_cons] at this
    omega
  rw [hpn]
  clear hpn
  obtain ⟨x, rfl, hk, hs, hsl⟩ := hD.split
  have HSL := hide hsl
  have HIH := hide IH
  obtain ⟨a1, c1, rfl, hm1, -⟩ := hsl
  simp only [maxLen] at hm1
  rw [count_mk] at hcnt
  have hlc := len_count ks
  have HCM := hide (fun d h => Nat.le_trans (count_mem (ks := ks) (d := d) h) (show ks.count ≤ 900000 by omega))
  clear hD IH
  obtain ⟨ds, hds⟩ : ∃ ds, ks.toL = ds := ⟨_, rfl⟩
  rw [hds] at HSL HIH HCM hm1 hlc hpl ⊢
  clear hds
  go_enter Tryz.func32, Tryz.ntmps32
  go_wp2_with fail
  refine namedWp fun W1 hW1 => ?_
  have HS1 := hide (show St w W1 [(w.heap.size, 24, #[.int .i64 k, .string s, .slice a1 ds.length c1])] from St.onto hW1 (((St.nil w).var 24 _ (by simp)).al _))
  have HP1 := hide (show PHeld w.heap.size (.slice (some ⟨w.heap.size + 1, 0, none⟩) 1 1) ([] :: pathsL 0 (ds.take 0)) W1 from by
    refine ⟨[.slice none 0 0], ⟨rfl, .inr ⟨w.heap.size + 1, 1, #[.slice none 0 0], rfl, by omega, ?_, Nat.le_refl _, by decide, rfl, rfl⟩⟩, fun k p hp => ?_⟩
    · rw [hW1]
      have := heap_alloc_new (w.alloc (.cells #[.int .i64 k, .string s, .slice a1 ds.length c1] 24)) (.cells #[.slice none 0 0] 25)
      rw [World.size_alloc] at this
      exact this
    · cases k with
      | zero =>
        obtain rfl : [] = p := by simpa [pathsL] using hp
        exact ⟨_, rfl, IsPath.nil⟩
      | succ k => simp [pathsL] at hp)
  clear hW1
  go_loopw [3, 4] (fun ov iv wr => ∃ (q : Nat) (a : Option Addr) (n c : Nat), ov = .slice a n c ∧ iv = .int .i64 q ∧ q ≤ ds.length ∧ St w wr [(w.heap.size, 24, #[.int .i64 k, .string s, .slice a1 ds.length c1])] ∧ PHeld w.heap.size (.slice a n c) ([] :: pathsL 0 (ds.take q)) wr) (fun _ iv _ => ds.length - (intOf iv).toNat)
  case atStart => exact ⟨0, _, _, _, rfl, rfl, Nat.zero_le _, HS1.out, HP1.out⟩
  case round =>
    obtain ⟨q, a, n, c, rfl, rfl, hq, hS, hP⟩ := hrel
    have HS := hide hS
    have HP := hide hP
    clear hS hP HS1 HP1
    by_cases hlt : q < ds.length
    · have hlti : (q : Int) < (ds.length : Int) := by omega
      obtain ⟨b, o, cap2, k1, s1, y1, m1, e1, hv, hFb, g0, g1, g2, hc⟩ := HSL.out.kid hlt
      cases hv
      have hI1 : Is wr ds[q] _ := IsNd.below (B := w.heap.size) hc HS.out.below HS.out.below.size
      have HC := hide (HIH.out ds[q] (List.getElem_mem hlt) _ _ hI1 (HCM.out _ (List.getElem_mem hlt)))
      have htk := pathsL_take hlt
      have htl : (pathsL 0 (ds.take (q + 1))).length ≤ (pathsL 0 ds).length := by
        have h3 := pathsL_append (ds.take (q + 1)) (ds.drop (q + 1)) 0
        rw [List.take_append_drop] at h3
        rw [h3, List.length_append]; omega
      have hshort : ∀ p ∈ pathsN ds[q], p.length ≤ 900000 := fun p hp => by
        have h1 := pathsN_short ds[q] p hp
        have h2 := HCM.out _ (List.getElem_mem hlt)
        omega
      obtain ⟨pq, hpq⟩ : ∃ pq, pathsN ds[q] = pq := ⟨_, rfl⟩
      rw [hpq] at HC htk hshort
      rw [htk, List.length_append, List.length_map] at htl
      have HTK := hide htk
      have HSH := hide hshort
      have hlen1 : (pathsL 0 (ds.take q)).length + pq.length ≤ 900000 := by omega
      replace g0 := (Below.cell HS.out.below (p := ⟨b, o + q * 3, none⟩) hFb).trans g0
      replace g1 := (Below.cell HS.out.below (p := ⟨b, o + q * 3 + 1, none⟩) hFb).trans g1
      replace g2 := (Below.cell HS.out.below (p := ⟨b, o + q * 3 + 2, none⟩) hFb).trans g2
      have p0 := (HS.out.get 0 rfl).see3
      have hown0 : ∀ g, (Value.slice a n c).ownBlock = some g → g < wr.heap.size := fun g hg => by
        obtain ⟨xs, hx, _⟩ := HP.out
        exact (hx.lt g hg).2
      obtain ⟨N0, hN0⟩ : ∃ N0, wr.heap.size = N0 := ⟨_, rfl⟩
      have HOW := hide hown0
      clear hc hI1 htk htl hpq hshort hown0
      go_wp2_with fail
      refine HC.out.mono ?_
      rintro e w2 ⟨la, lc, rfl, hL, hb2⟩
      have HS2 := hide (HS.out.call hb2)
      have HP2 := hide (HP.out.below hb2)
      have HL := hide hL
      have hz2 := hb2.size
      have hzr := HS.out.below.size
      have HN0 := hide hN0
      rw [hN0] at hz2 hzr
      have hL2 : IsPaths w2 (fun b => N0 ≤ b ∧ b < w2.heap.size) (.slice la pq.length lc) pq := HL.out.keep fun b hb => ⟨⟨by have h1 := HN0.out; have h2 := hb.1; omega, hb.2⟩, rfl⟩
      have HL2 := hide hL2
      have HOW2 := hide (show ∀ g, (Value.slice a n c).ownBlock = some g → g < N0 ∨ w2.heap.size ≤ g from fun g hg => Or.inl (by have := HOW.out g hg; have := HN0.out; omega))
      clear hL hb2 g0 g1 g2 p0 HC HP HS hL2 HL HOW hN0
      go_wp2_with fail
      go_loopw [3, 6] (fun ov jv wx => ∃ (j : Nat) (a : Option Addr) (n c : Nat), ov = .slice a n c ∧ jv = .int .i64 j ∧ j ≤ pq.length ∧ w2.heap.size ≤ wx.heap.size ∧ St w wx [(w.heap.size, 24, #[.int .i64 k, .string s, .slice (some ⟨b, o, none⟩) ds.length c1])] ∧ PHeld w.heap.size (.slice a n c) (([] :: pathsL 0 (ds.take q)) ++ (pq.take j).map ((q : Int) :: ·)) wx ∧ IsPaths wx (fun b => N0 ≤ b ∧ b < w2.heap.size) (.slice la pq.length lc) pq ∧ (∀ g, (Value.slice a n c).ownBlock = some g → g < N0 ∨ w2.heap.size ≤ g)) (fun _ jv _ => pq.length - (intOf jv).toNat)
      case atStart => exact ⟨0, _, _, _, rfl, rfl, Nat.zero_le _, Nat.le_refl _, HS2.out, by simpa using HP2.out, HL2.out, HOW2.out⟩
      case round =>
        obtain ⟨j, a, n, c, rfl, rfl, hj, hzx, hS, hP, hL, hnb⟩ := hrel
        have HS := hide hS
        have HP := hide hP
        have HL' := hide hL
        have HNB := hide hnb
        clear hS hP hL hnb HS2 HP2 HL2 HOW2
        by_cases hlj : j < pq.length
        · have hlji : (j : Int) < (pq.length : Int) := by omega
          obtain ⟨lb, lo, u, rfl, hlb, hlc, hup⟩ := HL'.out.get hlj
          obtain ⟨ua, uc, rfl, -, -⟩ := id hup
          have hpl2 : pq[j].length ≤ 900000 := HSH.out _ (List.getElem_mem hlj)
          obtain ⟨a3, c3, w3, hr3, hp3, hb3⟩ := cons_path (w := wr) (q : Int) (hup.keep fun b hb => ⟨Nat.lt_of_lt_of_le hb.2 hzx, rfl⟩) hpl2
          have HP3 := hide (HP.out.below hb3)
          have HS3 := hide (HS.out.call hb3)
          have hz3 := hb3.size
          have hlen2 : (([] :: pathsL 0 (ds.take q)) ++ (pq.take j).map ((q : Int) :: ·)).length ≤ 999000 := by
            rw [List.length_append, List.length_cons, List.length_map, List.length_take]; omega
          obtain ⟨a4, c4, w4, hr4, hP4, hb4, hg4, ⟨xs4, hx4⟩, hbl4⟩ := HP3.out.snoc (PHeld.away HP.out HS.out.below.size hp3) (by omega) HS3.out.below.size
          have HS4 := hide (HS3.out.phg hg4 hx4 (by simp))
          have hfin : ([] :: pathsL 0 (ds.take q)) ++ (pq.take j).map ((q : Int) :: ·) ++ [(q : Int) :: pq[j]] = ([] :: pathsL 0 (ds.take q)) ++ (pq.take (j + 1)).map ((q : Int) :: ·) := by
            rw [List.append_assoc, List.take_succ_eq_append_getElem hlj, List.map_append]; rfl
          rw [hfin] at hP4
          have hL4 : IsPaths w4 (fun b => N0 ≤ b ∧ b < w2.heap.size) (.slice (some ⟨lb, lo, none⟩) pq.length lc) pq := HL'.out.keep fun b hb => ⟨hb, (hg4.block b (by have := hb.2; omega) (fun e => by
            have h1 := HNB.out b e.symm
            have h2 := hb.1
            have h3 := hb.2
            omega)).trans (hb3.block b (by have := hb.2; omega))⟩
          have hN4 : ∀ g, (Value.slice a4 ((([] :: pathsL 0 (ds.take q)) ++ (pq.take j).map ((q : Int) :: ·)).length + 1) c4).ownBlock = some g → g < N0 ∨ w2.heap.size ≤ g := fun g hg => by
            rcases hbl4 g hg with h | h
            · exact HNB.out g h
            · omega
          have hnn : (([] :: pathsL 0 (ds.take q)) ++ (pq.take j).map ((q : Int) :: ·)).length = n := by
            obtain ⟨a5, c5, hf5⟩ := HP.out.form
            simp only [Value.slice.injEq] at hf5
            exact hf5.2.1.symm
          rw [hnn] at hr4 hP4 hN4
          have HP4 := hide hP4
          have HL4 := hide hL4
          have HN4 := hide hN4
          have hz4 := hg4.size
          clear hP4 hL4 hN4 hup hp3 hb3 hb4 hg4 hx4 hbl4 hfin HP3 HS3 hnn hlen2
          have hlc3 := Lib.cell?_alloc_some (.cells #[.int .i64 (q : Int)] 3) hlc
          go_wp2_with (first | (at_builtin; refine wpList_app rfl _ _ (by rfl) (by rfl) (by rfl) (by rfl) hr3 ?_) | (refine stopAt 38 ?_))
          refine ⟨?_⟩
          clear hr3 hlc hlc3
          go_wp2_with (first | (at_builtin; refine wpList_app rfl _ _ (by rfl) (by rfl) (by rfl) (by rfl) hr4 ?_))
          exact ⟨⟨j + 1, _, _, _, rfl, by go_num, by omega, by omega, HS4.out, HP4.out, HL4.out, HN4.out⟩, by simp [intOf]; omega⟩
        · have hlji : ¬ (j : Int) < (pq.length : Int) := by omega
          obtain rfl : j = pq.length := by omega
          have p0 := (HS.out.get 0 rfl).see3
          go_wp2_with fail
          have hP := HP.out
          rw [List.take_length, List.cons_append, ← HTK.out] at hP
          go_roundw
          case rel => exact ⟨q + 1, _, _, _, rfl, by go_num, by omega, HS.out, hP⟩
          case measure => simp [intOf]; omega
    · have hlti : ¬ (q : Int) < (ds.length : Int) := by omega
      obtain rfl : q = ds.length := by omega
      have p0 := (HS.out.get 0 rfl).see3
      go_wp2_with fail
      go_ret
      have hP := HP.out
      rw [List.take_length] at hP
      obtain ⟨a5, c5, hf5⟩ := hP.form
      cases hf5
      exact ⟨_, _, rfl, hP.out, HS.out.below⟩
end Go.Proofs.YtacgmmpdichlmaaGreat
