/-
  Copy: a node in new memory. Its conditions: the value reads as a node, of at most 900000 nodes.
  The program's kid and At: what stands at a path, in new memory. Its conditions: the value reads as a node, of at most 900000 nodes; the slice reads as numbers.
  Cells of blocks that a walk's steps leave alone. No condition.
  The reference's At; the program's bracket. Its conditions: the value reads as a node; the slice reads as numbers.
  The law's generator of programs: its choices; one of some words. Its condition: the choices read as bytes, the generator's variable lies in a block of its own.
  The law's generator of programs: one of some words. Its condition: the generator's variable as GenA has it.
  The law's generator of programs: arguments, patterns. Its condition: the generator's variable as GenA has it; what it calls answers with at most N bytes.
  The law's generator of programs: the pairs of an object. Its condition: the generator's variable as GenA has it; what it calls answers with at most N bytes.
  Nodes of blocks that are new since w, but for the variables' G, or of blocks F that were there. No condition.
  The reference's params: of a definition. Its condition: the parser's items lie in memory.
  The reference's pipe. Its condition: the parser's items lie in memory.
  The reference's deep: where too many brackets are open. Its condition: the parser's items lie in memory.
-/
import Derived.Test.YtacgmmpdichlmaaN02
import Derived.Test.YtacgmmpdichlmaaN00
import Derived.BigQuiet
import Derived.IntWalk
namespace Go.Proofs.Ytacgmmpdichlmaa
open Go.RowKit
attribute [local go_sem ↓] Go.wp_at_zero Go.wp_at_succ

/-- The call hands back a node in new memory. -/
def NdNew (w : World) (d : Nd) (e : Ending) (w' : World) : Prop := ∃ (k : Int) (s : ByteArray) (y : Option Addr) (m c : Nat), e = .returned (.agg #[.int .i64 k, .string s, .slice y m c]) ∧ IsNd w' (New w.heap.size w') d (.agg #[.int .i64 k, .string s, .slice y m c]) ∧ Below w.heap.size w w'
theorem ended_n {fn : Func} {p : Tmp} {tmps : Array Value} {W : World} {R : Ending → World → Prop} {g : Nat} {c0 c1 c2 : Value} (hr : fn.results = #[.cell p 25]) (hp : tmps.getD p undef = .pointer (some ⟨g, 0, none⟩)) (hb : Blk W g 25 #[c0, c1, c2])
    (hd : R (.returned (.agg #[c0, c1, c2])) W) : bodyPost Try.prog fn R .ret { tmps := tmps, defers := [] } W :=
  bodyPost_ret (results_cell_row hr tmps W g 25 _ (0, 0) _ hp hb Try.underlying25 rfl (by kernel_rfl)) rfl hd
theorem count_mem : ∀ {ks : Nds} {d : Nd}, d ∈ ks.toL → d.count ≤ ks.count
  | .nil, d, h => by simp [Nds.toL] at h
  | .cons x r, d, h => by
    rw [Nds.toL] at h
    rw [Nds.count]
    rcases List.mem_cons.1 h with rfl | h
    · omega
    · have := count_mem h
      omega
theorem len_count : ∀ ks : Nds, ks.toL.length ≤ ks.count
  | .nil => by simp [Nds.toL]
  | .cons x r => by
    have := len_count r
    have := count_pos x
    rw [Nds.toL, Nds.count, List.length_cons]
    omega
theorem count_mk (k : Int) (s : ByteArray) (ks : Nds) : (Nd.mk k s ks).count = 1 + ks.count := by rw [Nd.count]
theorem take_snoc {ds : List Nd} {q : Nat} (h : q < ds.length) : ds.take q ++ [ds[q]] = ds.take (q + 1) := (List.take_succ_eq_append_getElem h).symm
theorem rowof {w W : World} {G : List Nat} {ds : List Nd} {q n c : Nat} {y : Option Addr} (h : q < ds.length) (hx : Hx w W G (.slice y n c) (ds.take q ++ [ds[q]])) : Hx w W G (.slice y (q + 1) c) (ds.take (q + 1)) := by
  have hf := hx.form
  rw [take_snoc h] at hf hx
  obtain ⟨a, c', hf⟩ := hf
  cases hf
  have : (ds.take (q + 1)).length = q + 1 := by rw [List.length_take]; omega
  rw [this] at hx
  exact hx
theorem rowlen_eq {w W : World} {G : List Nat} {ds : List Nd} {q n c : Nat} {y : Option Addr} (h : q < ds.length) (hx : Hx w W G (.slice y n c) (ds.take q ++ [ds[q]])) : Value.slice y n c = .slice y (q + 1) c := by
  have hf := hx.form
  obtain ⟨a, c', hf⟩ := hf
  cases hf
  rw [take_snoc h]
  have : (ds.take (q + 1)).length = q + 1 := by rw [List.length_take]; omega
  rw [this]
def CopyOk (d : Nd) : Prop := ∀ (v : Value) (w : World), Is w d v → d.count ≤ 900000 → Calls Try.prog 36 #[v] w (NdNew w d)
set_option maxRecDepth 100000 in
set_option maxHeartbeats 4000000 in
theorem copy_any (d : Nd) : CopyOk d := by
  refine Nd.ind_ (P := CopyOk) ?_ d
  intro k s ks IH v w hD hcnt
  obtain ⟨x, rfl, hk, hs, hsl⟩ := hD.split
  have HSL := hide hsl
  have HIH := hide IH
  obtain ⟨a1, c1, rfl, hm1, -⟩ := hsl
  simp only [maxLen] at hm1
  rw [count_mk] at hcnt
  have hlc := len_count ks
  have HCM := hide (fun d h => Nat.le_trans (count_mem (ks := ks) (d := d) h) (show ks.count ≤ 900000 by omega))
  have HOF := hide (Nd.of_kids k s ks)
  clear hD IH
  obtain ⟨ds, hds⟩ : ∃ ds, ks.toL = ds := ⟨_, rfl⟩
  rw [hds] at HSL HIH HCM HOF hm1 hlc ⊢
  clear hds
  go_enter Try.func36, Try.ntmps36
  go_wp2_with fail
  refine namedWp fun W1 hW1 => ?_
  have HS1 := onS hW1 (St.nil w).va.va
  clear hW1
  go_loopw [3, 9] (fun lv i wr => ∃ (q : Nat) (y : Option Addr) (c : Nat), lv = .slice y q c ∧ q ≤ ds.length ∧ i = .int .i64 q ∧ St w wr [ne w.heap.size k s a1 ds.length c1, nz (w.heap.size + 1)] ∧ Hx w wr [w.heap.size, w.heap.size + 1] (.slice y q c) (ds.take q)) (fun _ i _ => ds.length - (intOf i).toNat)
  case atStart => exact ⟨0, none, 0, rfl, Nat.zero_le _, rfl, HS1.out, Hx.nil _ _ _⟩
  obtain ⟨q, y, c, rfl, hq, rfl, hS, hH⟩ := hrel
  have HSr := hide hS
  have HRk := hide hH
  clear hS hH HS1
  by_cases hlt : q < ds.length
  ·
   have hlti : (q : Int) < (ds.length : Int) := by omega
   obtain ⟨b, o, cap2, k1, s1, y1, m1, e1, hv, hFb, g0, g1, g2, hc⟩ := HSL.out.kid hlt
   cases hv
   have HC := hide hc
   clear hc
   replace g0 := (Below.cell HSr.out.below (p := ⟨b, o + q * 3, none⟩) hFb).trans g0
   replace g1 := (Below.cell HSr.out.below (p := ⟨b, o + q * 3 + 1, none⟩) hFb).trans g1
   replace g2 := (Below.cell HSr.out.below (p := ⟨b, o + q * 3 + 2, none⟩) hFb).trans g2
   have p0 := rD HSr
   go_wp2_with fail
   have lv2 := lV HSr
   refine named fun W2 hW2 => ?_
   have HS2 := onS hW2 HSr.out.va
   have HRl2 := hide (Px.onto hW2 (HRk.out.var (g := wr.heap.size) (by simp) _))
   clear HRk
   clear hW2 HSr
   clear p0
   have hI1 : Is W2 ds[q] _ := HC.out.below (HS2.out.below) HS2.out.below.size
   refine (HIH.out ds[q] (List.getElem_mem hlt) _ _ hI1 (HCM.out _ (List.getElem_mem hlt))).mono ?_
   rintro e w3 ⟨k3, s3, y3, m3, c3, rfl, hn3, hb3⟩
   have HS3 := hide (HS2.out.call hb3)
   have HRl3 := hide (Px.made HRl2.out hn3 hb3 HS2.out rfl)
   clear HRl2
   clear hn3 hb3 HS2
   have p0 := rD HS3
   clear hI1 g0 g1 g2
   have lv4 := lV HS3
   have hSt4 : St w w3 [ne w.heap.size k s (some ⟨b, o, none⟩) ds.length c1, nz (w.heap.size + 1), ne wr.heap.size k1 s1 y1 m1 e1] := HS3.out
   have hPx4 : Px w w3 [w.heap.size, w.heap.size + 1, wr.heap.size] (.slice y q c) (ds.take q) [ds[q]] [.int .i64 k3, .string s3, .slice y3 m3 c3] := HRl3.out
   obtain ⟨v4, w4, hr4, hH4, hS4⟩ := hPx4.snoc hSt4 rfl (by rw [List.length_take]; simp; omega) (by simp)
   simp only [List.length_cons, List.length_nil, Nat.zero_add] at hr4
   obtain ⟨y4, n4, c4, rfl⟩ := hH4.form'
   clear hSt4 hPx4 HS3 HRl3
   have HS4 := hide hS4
   have HRl4 := hide hH4
   clear hS4 hH4
   have rr0 := rD HS4
   go_wp2_with (at_builtin; refine wpList_append_run rfl _ _ (by rfl) (by rfl) (by rfl) (by rfl) hr4 ?_)
   clear hr4 p0
   exact ⟨⟨q + 1, y4, c4, rowlen_eq hlt HRl4.out, by omega, by go_num, HS4.out.cut 2 rfl, rowof hlt (HRl4.out.fewer (by simp))⟩, by simp [intOf]; omega⟩
  have p0 := rD HSr
  have hlti : ¬ (q : Int) < (ds.length : Int) := by omega
  obtain rfl : q = ds.length := by omega
  go_wp2_with fail
  refine namedPost fun W5 hW5 => ?_
  have HS5 := onS hW5 ((HSr.out.st 0 rfl 2 _).st3 1 rfl _ _ _)
  have HRl5 := hide (Px.onto hW5 ((HRk.out.st (by simp) _ _).st3 (by simp) _ _ _))
  clear HRk
  clear hW5 HSr
  clear p0
  have hN := Px.node (k := k) (s := s) HRl5.out hk hs
  rw [List.take_length, HOF.out] at hN
  exact ended_n rfl rfl (HS5.out.get 1 rfl) ⟨_, _, _, _, _, rfl, hN.out, HS5.out.below⟩
end Go.Proofs.Ytacgmmpdichlmaa
namespace Go.Proofs.Ytacgmmpdichlmaa
open Go.RowKit
attribute [local go_sem ↓] Go.wp_at_zero Go.wp_at_succ

/-- The slice reads as the numbers. -/
def IsPath (w : World) (F : Nat → Prop) (v : Value) (p : List Int) : Prop :=
  ∃ a c, v = .slice a p.length c ∧ p.length ≤ maxLen ∧ (p ≠ [] → ∃ b o, a = some ⟨b, o, none⟩ ∧ F b ∧ ∀ k x, p[k]? = some x → w.cell? ⟨b, o + k, none⟩ = some (.int .i64 x))
theorem IsPath.keep {w w' : World} {F F' : Nat → Prop} (hF : ∀ b, F b → F' b ∧ w'.heap[b]? = w.heap[b]?) {v : Value} {p : List Int} (h : IsPath w F v p) : IsPath w' F' v p := by
  obtain ⟨a, c, h1, h2, h3⟩ := h
  refine ⟨a, c, h1, h2, fun hne => ?_⟩
  obtain ⟨b, o, ha, hb, hc⟩ := h3 hne
  exact ⟨b, o, ha, (hF b hb).1, fun k x hx => (World.cell?_of_block (w := w) (a := ⟨b, o + k, none⟩) (hF b hb).2).trans (hc k x hx)⟩
theorem IsPath.below {w w' : World} {v : Value} {p : List Int} (h : IsPath w (· < w.heap.size) v p) (hb : Below w.heap.size w w') : IsPath w' (· < w'.heap.size) v p := h.keep fun b hb' => ⟨Nat.lt_of_lt_of_le hb' hb.size, hb.block b hb'⟩
theorem IsPath.get {w : World} {F : Nat → Prop} {a : Option Addr} {m c : Nat} {p : List Int} (h : IsPath w F (.slice a m c) p) {q : Nat} (hq : q < p.length) : ∃ b o, a = some ⟨b, o, none⟩ ∧ F b ∧ w.cell? ⟨b, o + q, none⟩ = some (.int .i64 p[q]) := by
  obtain ⟨a', c', hv, _, h3⟩ := h
  cases hv
  obtain ⟨b, o, ha, hb, hc⟩ := h3 (by rintro rfl; simp at hq)
  exact ⟨b, o, ha, hb, hc q _ (List.getElem?_eq_getElem hq)⟩

theorem kid_in {w : World} {b o b' o' q m c : Nat} (hc : w.cell? ⟨b, o + 2, none⟩ = some (.slice (some ⟨b', o', none⟩) m c)) (hq : q < m) (_hm : m ≤ maxLen) :
    Calls Try.prog 35 #[.pointer (some ⟨b, o, none⟩), .int .i64 q] w fun e w' => e = .returned (.pointer (some ⟨b', o' + q * 3, none⟩)) ∧ w' = w := by
  have hqi : (q : Int) < (m : Int) := by omega
  have hq0 : ¬ (q : Int) < 0 := by omega
  simp only [maxLen] at _hm
  go_enter Try.func35, Try.ntmps35
  go_wp2_with fail
  go_ret
  exact ⟨rfl, rfl⟩
theorem kid_out {w : World} {b o m c : Nat} {y : Option Addr} {x : Int} (hc : w.cell? ⟨b, o + 2, none⟩ = some (.slice y m c)) (hq : x < 0 ∨ (m : Int) ≤ x) :
    Calls Try.prog 35 #[.pointer (some ⟨b, o, none⟩), .int .i64 x] w fun e w' => e = .returned (.pointer none) ∧ w' = w := by
  by_cases h0 : x < 0
  · clear hq
    go_enter Try.func35, Try.ntmps35
    go_wp2_with fail
    go_ret
    exact ⟨rfl, rfl⟩
  · have hx : (m : Int) ≤ x := by omega
    clear hq
    go_enter Try.func35, Try.ntmps35
    go_wp2_with fail
    go_ret
    exact ⟨rfl, rfl⟩
theorem ended_nb_ {fn : Func} {p q : Tmp} {tmps : Array Value} {W : World} {R : Ending → World → Prop} {g : Nat} {x0 x1 x2 y : Value} (hr : fn.results = #[.cell p 25, .tmp q]) (hp : tmps.getD p undef = .pointer (some ⟨g, 0, none⟩)) (hq : tmps.getD q undef = y)
    (h0 : Blk W g 25 #[x0, x1, x2]) (hd : R (.returned (.tuple #[.agg #[x0, x1, x2], y])) W) : bodyPost Try.prog fn R .ret { tmps := tmps, defers := [] } W := ended_nb hr hp hq h0 hd
/-- What At hands back: a node of blocks of F, or none. -/
def AtP (F : World → Nat → Prop) (w : World) (o : Option Nd) (e : Ending) (w' : World) : Prop :=
  (match o with
   | none => e = .returned (.tuple #[.agg #[.int .i64 0, .string ⟨#[]⟩, .slice none 0 0], .bool false])
   | some d => ∃ (k : Int) (s : ByteArray) (y : Option Addr) (m c : Nat), e = .returned (.tuple #[.agg #[.int .i64 k, .string s, .slice y m c], .bool true]) ∧ IsNd w' (F w') d (.agg #[.int .i64 k, .string s, .slice y m c])) ∧ Below w.heap.size w w'
theorem atN_drop {p : List Int} {q : Nat} (h : q < p.length) (d : Nd) : atN (p.drop q) d = (kidI d.kids p[q]).bind (atN (p.drop (q + 1))) := by
  rw [List.drop_eq_getElem_cons h, atN]
theorem count_kid {d x : Nd} {i : Int} (h : kidI d.kids i = some x) : x.count ≤ d.count := by
  obtain ⟨k, s, ks⟩ := d
  rw [count_mk]
  have := count_mem (List.mem_of_getElem? (kidI_some h).2)
  omega
/-- The node's own shape. -/
theorem IsNd.out {w : World} {F : Nat → Prop} {d : Nd} {k : Int} {s : ByteArray} {y : Option Addr} {m c : Nat} (h : IsNd w F d (.agg #[.int .i64 k, .string s, .slice y m c])) : m = d.kids.length ∧ d.kids.length ≤ maxLen ∧ IsSl w F d.kids (.slice y m c) ∧ d.kind = k ∧ d.text = s := by
  obtain ⟨k', s', ks⟩ := d
  obtain ⟨x, hx, hk, hs, hsl⟩ := h.split
  simp only [Value.agg.injEq, Array.mk.injEq, List.cons.injEq, and_true, Value.int.injEq, Value.string.injEq, true_and] at hx
  obtain ⟨rfl, rfl, rfl⟩ := hx
  have h0 := hsl
  obtain ⟨a, c', hv, hl, _⟩ := hsl
  cases hv
  exact ⟨rfl, hl, h0, rfl, rfl⟩

set_option maxHeartbeats 4000000 in
theorem at_any {d : Nd} {v u : Value} {p : List Int} {w : World} (hD : Is w d v) (hcnt : d.count ≤ 900000) (hP : IsPath w (· < w.heap.size) u p) :
    Calls Try.prog 21 #[v, u] w (AtP (fun W => New w.heap.size W) w (atN p d)) := by
  obtain ⟨k0, s0, y0, m0, c0, rfl⟩ := hD.form
  obtain ⟨pa, pc, rfl, hpl, -⟩ := id hP
  have HP := hide hP
  have HD := hide hD
  simp only [maxLen] at hpl
  clear hP hD
  go_enter Try.func21, Try.ntmps21
  go_wp2_with fail
  refine namedWp fun W1 hW1 => ?_
  have HS1 := hide (show St w W1 [(w.heap.size, 25, #[.int .i64 k0, .string s0, .slice y0 m0 c0]), nz (w.heap.size + 1)] from St.onto hW1 (((St.nil w).var 25 _ (by simp)).var 25 _ (by simp)))
  clear hW1
  have q1 := (HS1.out.get 1 rfl).see3
  have HD1 := hide (HD.out.below HS1.out.below)
  have HP1 := hide (HP.out.below HS1.out.below)
  obtain ⟨h00, h01, h02, -⟩ := (HS1.out.get 0 rfl).three
  have hlt0 := (HS1.out.get 0 rfl).lt
  clear HD HP
  go_loopw [6, 11] (fun xv iv wr => ∃ (q : Nat) (d' : Nd) (b o : Nat) (k : Int) (s : ByteArray) (y : Option Addr) (m c : Nat), xv = .pointer (some ⟨b, o, none⟩) ∧ iv = .int .i64 q ∧ q ≤ p.length ∧ wr = W1 ∧ b < W1.heap.size ∧ W1.cell? ⟨b, o, none⟩ = some (.int .i64 k) ∧ W1.cell? ⟨b, o + 1, none⟩ = some (.string s) ∧ W1.cell? ⟨b, o + 2, none⟩ = some (.slice y m c) ∧ Is W1 d' (.agg #[.int .i64 k, .string s, .slice y m c]) ∧ atN p d = atN (p.drop q) d' ∧ d'.count ≤ 900000) (fun _ iv _ => p.length - (intOf iv).toNat)
  case atStart => exact ⟨0, d, w.heap.size, 0, k0, s0, y0, m0, c0, rfl, rfl, Nat.zero_le _, rfl, hlt0, h00, h01, h02, HD1.out, rfl, hcnt⟩
  case round =>
    obtain ⟨q, d', b, o, k, s, y, m, c, rfl, rfl, hq, rfl, hb, g0, g1, g2, hd', hat, hcnt'⟩ := hrel
    have HD' := hide hd'
    have HAT := hide hat
    clear hd' hat h00 h01 h02
    by_cases hlt : q < p.length
    · have hlti : (q : Int) < (p.length : Int) := by omega
      obtain ⟨pb, po, rfl, hpb, gp⟩ := HP1.out.get hlt
      obtain ⟨hm, hml, hsl, -, -⟩ := HD'.out.out
      obtain ⟨x, hx⟩ : ∃ x, p[q] = x := ⟨_, rfl⟩
      rw [hx] at gp
      have HX := hide hx
      clear hx
      by_cases hin : 0 ≤ x ∧ x.toNat < d'.kids.length
      · obtain ⟨j, rfl⟩ : ∃ j : Nat, x = j := ⟨x.toNat, by omega⟩
        have hj : j < d'.kids.length := by omega
        obtain ⟨b', o', cap', k', s', y', m', c', hv, hFb, f0, f1, f2, hk⟩ := hsl.kid hj
        cases hv
        have HK := hide hk
        have hmm : d'.kids.length ≤ maxLen := hml
        have hkc : d'.kids[j].count ≤ 900000 := Nat.le_trans (count_kid (d := d') (i := j) (by rw [kidI_ofNat]; exact List.getElem?_eq_getElem hj)) hcnt'
        have hat2 : atN p d = atN (p.drop (q + 1)) d'.kids[j] := by rw [HAT.out, atN_drop hlt, HX.out, kidI_ofNat, List.getElem?_eq_getElem hj]; rfl
        have HAT2 := hide hat2
        clear hk hsl hat2 hin
        go_wp2_with fail
        refine (kid_in g2 (by omega) (by omega)).mono ?_
        rintro e w2 ⟨rfl, rfl⟩
        go_wp2_with fail
        exact ⟨⟨q + 1, d'.kids[j], b', o' + j * 3, k', s', y', m', c', rfl, by go_num, by omega, trivial, hFb, f0, f1, f2, HK.out, HAT2.out, hkc⟩, by simp [intOf]; omega⟩
      · have hat2 : atN p d = none := by
          rw [HAT.out, atN_drop hlt, HX.out]
          have : kidI d'.kids x = none := by
            cases hkk : kidI d'.kids x with
            | none => rfl
            | some z =>
              obtain ⟨h1, h2⟩ := kidI_some hkk
              exact absurd ⟨h1, (List.getElem?_eq_some_iff.1 h2).1⟩ hin
          rw [this]; rfl
        have HAT2 := hide hat2
        have hout : x < 0 ∨ (m : Int) ≤ x := by omega
        clear hat2 hin hsl
        go_wp2_with fail
        refine (kid_out g2 hout).mono ?_
        rintro e w2 ⟨rfl, rfl⟩
        go_wp2_with fail
        rw [HAT2.out]
        exact ended_nb_ rfl rfl rfl ((HS1.out.st3 1 rfl _ _ _).get 1 rfl) ⟨rfl, (HS1.out.st3 1 rfl _ _ _).below⟩
    · have hlti : ¬ (q : Int) < (p.length : Int) := by omega
      have hat2 : atN p d = some d' := by rw [HAT.out, List.drop_eq_nil_of_le (by omega), atN]
      have HAT2 := hide hat2
      clear hat2
      go_wp2_with fail
      refine (copy_any d' _ _ HD'.out hcnt').mono ?_
      rintro e w2 ⟨k2, s2, y2, m2, c2, rfl, hn2, hb2⟩
      have HS2 := hide (HS1.out.call hb2)
      have q2 := (HS2.out.get 1 rfl).see3
      have HN := hide (show Nx w w2 [w.heap.size, w.heap.size + 1] d' _ from Nx.made hn2 HS1.out)
      clear hn2 hb2 q1
      go_wp2_with fail
      rw [HAT2.out]
      exact ended_nb_ rfl rfl rfl ((HS2.out.st3 1 rfl _ _ _).get 1 rfl) ⟨⟨_, _, _, _, _, rfl, (HN.out.st3 (by simp) _ _ _).out⟩, (HS2.out.st3 1 rfl _ _ _).below⟩
end Go.Proofs.Ytacgmmpdichlmaa
namespace Go.Proofs.Ytacgmmpdichlmaa
open Go.RowKit

theorem st3_cell {W : World} {g b i : Nat} {v : Value} (hne : b ≠ g) (h : W.cell? ⟨b, i, none⟩ = some v) (x y z : Value) : (((W.setCell ⟨g, 0, none⟩ x).setCell ⟨g, 1, none⟩ y).setCell ⟨g, 2, none⟩ z).cell? ⟨b, i, none⟩ = some v := by
  have h1 := fun (W : World) (j : Nat) (u : Value) => World.cell?_of_block (w := W) (w' := W.setCell ⟨g, j, none⟩ u) (a := ⟨b, i, none⟩) (Below.heap_setCell W ⟨g, j, none⟩ u b (fun e => hne e))
  rw [h1, h1, h1, h]
theorem alloc_cell {W : World} {b i : Nat} {v : Value} (hlt : b < W.heap.size) (h : W.cell? ⟨b, i, none⟩ = some v) (o : Obj) : (W.alloc o).cell? ⟨b, i, none⟩ = some v := (Below.cell ((Below.refl _ W).alloc (Nat.le_refl _) o) (p := ⟨b, i, none⟩) hlt).trans h
theorem dr_cell {W : World} {b i : Nat} {v : Value} (h : W.cell? ⟨b, i, none⟩ = some v) : W.drew.cell? ⟨b, i, none⟩ = some v := h
theorem onto_cell {W W' : World} {b i : Nat} {v : Value} (e : W' = W) (h : W.cell? ⟨b, i, none⟩ = some v) : W'.cell? ⟨b, i, none⟩ = some v := e ▸ h
end Go.Proofs.Ytacgmmpdichlmaa
namespace Go.Proofs.Ytacgmmpdichlmaa
open Go.RowKit
attribute [local go_sem ↓] Go.wp_at_zero Go.wp_at_succ

theorem br_of {d : Nd} : d.br = (decide (d.kind = 12) && decide (d.kids.length = 1)) := by
  obtain ⟨k, s, ks⟩ := d
  simp only [Nd.br, isBr, Nd.kind, Nd.kids, Nds.len_toL]
  rfl
theorem bracketB_any {d : Nd} {v : Value} {w : World} {F : Nat → Prop} (hD : IsNd w F d v) : Calls Try.prog 22 #[v] w (Says d.br w) := by
  obtain ⟨k, s, y, m, c, rfl⟩ := hD.form
  obtain ⟨hm, hml, -, hk, -⟩ := hD.out
  simp only [maxLen] at hml
  unfold Says
  rw [br_of, ← hm, hk]
  rw [← hm] at hml
  clear hm hk hD
  by_cases h1 : k = 12
  · have e1 : (k == 12) = true := by simpa using h1
    rw [show decide (k = 12) = true by simpa using h1, Bool.true_and]
    clear h1
    by_cases h2 : m = 1
    · have e2 : ((m : Int) == 1) = true := by simp; omega
      rw [show decide (m = 1) = true by simpa using h2]
      clear h2
      go_enter Try.func22, Try.ntmps22
      go_wp2_with fail
      go_ret
      exact ⟨rfl, (Below.refl _ w).alloc (Nat.le_refl _) _⟩
    · have e2 : ((m : Int) == 1) = false := by simp; omega
      rw [show decide (m = 1) = false by simpa using h2]
      clear h2
      go_enter Try.func22, Try.ntmps22
      go_wp2_with fail
      go_ret
      exact ⟨rfl, (Below.refl _ w).alloc (Nat.le_refl _) _⟩
  · have e1 : (k == 12) = false := by simpa using h1
    rw [show decide (k = 12) = false by simpa using h1, Bool.false_and]
    clear h1
    go_enter Try.func22, Try.ntmps22
    go_wp2_with fail
    go_ret
    exact ⟨rfl, (Below.refl _ w).alloc (Nat.le_refl _) _⟩

set_option maxRecDepth 100000 in
set_option maxHeartbeats 4000000 in
theorem refAt_any {d : Nd} {v u : Value} {p : List Int} {w : World} (hD : Is w d v) (hP : IsPath w (· < w.heap.size) u p) :
    Calls Try.prog 11 #[v, u] w (AtP (fun W b => b < W.heap.size) w (atN p d)) := by
  obtain ⟨k0, s0, y0, m0, c0, rfl⟩ := hD.form
  obtain ⟨pa, pc, rfl, hpl, -⟩ := id hP
  have HP := hide hP
  have HD := hide hD
  simp only [maxLen] at hpl
  clear hP hD
  go_enter Try.func11, Try.ntmps11
  go_wp2_with fail
  refine namedWp fun W1 hW1 => ?_
  have HS1 := onS hW1 (St.nil w).va.va
  clear hW1
  go_loopw [6] (fun iv wr => ∃ (q : Nat) (d' : Nd) (k : Int) (s : ByteArray) (y : Option Addr) (m c : Nat), iv = .int .i64 q ∧ q ≤ p.length ∧ St w wr [ne w.heap.size k s y m c, nz (w.heap.size + 1)] ∧ IsNd w (· < w.heap.size) d' (.agg #[.int .i64 k, .string s, .slice y m c]) ∧ atN p d = atN (p.drop q) d') (fun iv _ => p.length - (intOf iv).toNat)
  case atStart => exact ⟨0, d, k0, s0, y0, m0, c0, rfl, Nat.zero_le _, HS1.out, HD.out, rfl⟩
  obtain ⟨q, d', k, s, y, m, c, rfl, hq, hS, hd', hat⟩ := hrel
  have HSr := hide hS
  have HD' := hide hd'
  have HAT := hide hat
  clear hS hd' hat HS1
  by_cases hlt : q < p.length
  ·
   have hlti : (q : Int) < (p.length : Int) := by omega
   obtain ⟨pb, po, rfl, hpb, gp⟩ := HP.out.get hlt
   obtain ⟨hm, hml, hsl, -, -⟩ := HD'.out.out
   obtain ⟨x, hx⟩ : ∃ x, p[q] = x := ⟨_, rfl⟩
   rw [hx] at gp
   have HX := hide hx
   clear hx
   have hpb1 : pb < w.heap.size := hpb
   have hp0 : pb ≠ w.heap.size := by omega
   have gp1 := (Below.cell HSr.out.below (p := ⟨pb, po + q, none⟩) hpb1).trans gp
   by_cases hin : 0 ≤ x ∧ x.toNat < d'.kids.length
   ·
    obtain ⟨j, rfl⟩ : ∃ j : Nat, x = j := ⟨x.toNat, by omega⟩
    have hj : j < d'.kids.length := by omega
    obtain ⟨b', o', cap', k', s', y', m', c', hv, hFb, f0, f1, f2, hk⟩ := hsl.kid hj
    cases hv
    have HK := hide hk
    have hat2 : atN p d = atN (p.drop (q + 1)) d'.kids[j] := by rw [HAT.out, atN_drop hlt, HX.out, kidI_ofNat, List.getElem?_eq_getElem hj]; rfl
    have HAT2 := hide hat2
    clear hk hsl hat2 hin
    have hji : ¬ (d'.kids.length : Int) ≤ (j : Int) := by omega
    have hjj : (j : Int) < (d'.kids.length : Int) := by omega
    have hj0 : ¬ (j : Int) < 0 := by omega
    have hb1 : b' < w.heap.size := hFb
    have hb0 : b' ≠ w.heap.size := by omega
    simp only [maxLen] at hml
    have p0 := rD HSr
    go_wp2_with fail
    go_quiet (fail)
    clear p0
    clear gp1
    refine namedQ fun WQ hWQ => ?_
    have HSq := hide (St.onto hWQ (HSr.out.drN _))
    clear hWQ HSr
    have hzq := HSq.out.below.size
    have HCp0 := hide ((Below.cell HSq.out.below (p := ⟨pb, po + q, none⟩) hpb1).trans gp)
    have HCa0 := hide ((Below.cell HSq.out.below (p := ⟨b', o' + j * 3, none⟩) hb1).trans f0)
    have HCb0 := hide ((Below.cell HSq.out.below (p := ⟨b', o' + j * 3 + 1, none⟩) hb1).trans f1)
    have HCc0 := hide ((Below.cell HSq.out.below (p := ⟨b', o' + j * 3 + 2, none⟩) hb1).trans f2)
    clear gp f0 f1 f2
    have p0 := rD HSq
    go_wp2_with fail
    refine namedWp fun W2 hW2 => ?_
    have HS2 := hide (St.onto hW2 HSq.out)
    have HCp2 := hide (onto_cell hW2 HCp0.out)
    clear HCp0
    have HCa2 := hide (onto_cell hW2 HCa0.out)
    clear HCa0
    have HCb2 := hide (onto_cell hW2 HCb0.out)
    clear HCb0
    have HCc2 := hide (onto_cell hW2 HCc0.out)
    clear HCc0
    clear hW2 HSq
    clear p0
    refine wp_region_held_drew (S := fun w' => (w'.cell? ⟨pb, po + q, none⟩ = some (.int .i64 j)) ∧ (w'.cell? ⟨b', o' + j * 3, none⟩ = some (.int .i64 k')) ∧ (w'.cell? ⟨b', o' + j * 3 + 1, none⟩ = some (.string s')) ∧ (w'.cell? ⟨b', o' + j * 3 + 2, none⟩ = some (.slice y' m' c'))) (by kernel_rfl) ?_ (fun hHeld => ?_)
    · exact And.intro (HCp2.out) (And.intro (HCa2.out) (And.intro (HCb2.out) (HCc2.out)))
    refine namedAny fun W3 hW3 => ?_
    have HS3 := hide (St.onto hW3 HS2.out.dr)
    have HCp3 := hide (onto_cell hW3 (dr_cell HCp2.out))
    clear HCp2
    have HCa3 := hide (onto_cell hW3 (dr_cell HCa2.out))
    clear HCa2
    have HCb3 := hide (onto_cell hW3 (dr_cell HCb2.out))
    clear HCb2
    have HCc3 := hide (onto_cell hW3 (dr_cell HCc2.out))
    clear HCc2
    clear hW3 HS2
    have hSn := And.intro (HCp3.out) (And.intro (HCa3.out) (And.intro (HCb3.out) (HCc3.out)))
    clear hHeld
    refine takeH (i := 0) (v := ?_) rfl (by kernel_rfl) (by kernel_rfl) (by kernel_rfl) (fun _ _ _ h => h) (by rfl) (by assumption) (fun w hSw => ?_) ?_; rotate_left
    · (try dsimp only at hSw); (try go_split_ands); go_simp; all_goals with_reducible rfl
    try simp only [Act.put, List.getElem_toArray, List.getElem_cons_zero, List.setIfInBounds_toArray, List.set_cons_zero, List.set_cons_succ]
    refine takeH (i := 2) (v := ?_) rfl (by kernel_rfl) (by kernel_rfl) (by kernel_rfl) (fun _ _ _ h => h) (by rfl) (by assumption) (fun w hSw => ?_) ?_; rotate_left
    · (try dsimp only at hSw); (try go_split_ands); go_simp; all_goals with_reducible rfl
    try simp only [Act.put, List.getElem_toArray, List.getElem_cons_zero, List.getElem_cons_succ, List.setIfInBounds_toArray, List.set_cons_zero, List.set_cons_succ]
    refine takeH (i := 3) (v := ?_) rfl (by kernel_rfl) (by kernel_rfl) (by kernel_rfl) (fun _ _ _ h => h) (by rfl) (by assumption) (fun w hSw => ?_) ?_; rotate_left
    · (try dsimp only at hSw); (try go_split_ands); go_simp; all_goals with_reducible rfl
    try simp only [Act.put, List.getElem_toArray, List.getElem_cons_zero, List.getElem_cons_succ, List.setIfInBounds_toArray, List.set_cons_zero, List.set_cons_succ]
    refine takeH (i := 4) (v := ?_) rfl (by kernel_rfl) (by kernel_rfl) (by kernel_rfl) (fun _ _ _ h => h) (by rfl) (by assumption) (fun w hSw => ?_) ?_; rotate_left
    · (try dsimp only at hSw); (try go_split_ands); go_simp; all_goals with_reducible rfl
    try simp only [Act.put, List.getElem_toArray, List.getElem_cons_zero, List.getElem_cons_succ, List.setIfInBounds_toArray, List.set_cons_zero, List.set_cons_succ]
    refine takeH (i := 5) (v := ?_) rfl (by kernel_rfl) (by kernel_rfl) (by kernel_rfl) (fun _ _ _ h => h) (by rfl) (by assumption) (fun w hSw => ?_) ?_; rotate_left
    · (try dsimp only at hSw); (try go_split_ands); go_simp; all_goals with_reducible rfl
    try simp only [Act.put, List.getElem_toArray, List.getElem_cons_zero, List.getElem_cons_succ, List.setIfInBounds_toArray, List.set_cons_zero, List.set_cons_succ]
    refine rY 1 fun K hK => ?_
    clear hSn
    have p0 := rG HS3 0
    go_simp
    refine onK hK (And.intro (HCp3.out) (And.intro (HCa3.out) (And.intro (HCb3.out) (HCc3.out)))) ?_
    clear hK K
    have hSn := And.intro (HCp3.out) (And.intro (HCa3.out) (And.intro (HCb3.out) (HCc3.out)))
    refine takeH (i := 6) (v := ?_) rfl (by kernel_rfl) (by kernel_rfl) (by kernel_rfl) (fun _ _ _ h => h) (by rfl) (by assumption) (fun w hSw => ?_) ?_; rotate_left
    · (try dsimp only at hSw); (try go_split_ands); go_simp; all_goals with_reducible rfl
    try simp only [Act.put, List.getElem_toArray, List.getElem_cons_zero, List.getElem_cons_succ, List.setIfInBounds_toArray, List.set_cons_zero, List.set_cons_succ]
    refine takeH (i := 7) (v := ?_) rfl (by kernel_rfl) (by kernel_rfl) (by kernel_rfl) (fun _ _ _ h => h) (by rfl) (by assumption) (fun w hSw => ?_) ?_; rotate_left
    · (try dsimp only at hSw); (try go_split_ands); go_simp; all_goals with_reducible rfl
    try simp only [Act.put, List.getElem_toArray, List.getElem_cons_zero, List.getElem_cons_succ, List.setIfInBounds_toArray, List.set_cons_zero, List.set_cons_succ]
    refine rY 8 fun K hK => ?_
    clear hSn
    clear p0
    have p0 := rG HS3 0
    go_simp
    refine onW hK (And.intro ((st3_cell hp0 HCp3.out _ _ _)) (And.intro ((st3_cell hb0 HCa3.out _ _ _)) (And.intro ((st3_cell hb0 HCb3.out _ _ _)) ((st3_cell hb0 HCc3.out _ _ _))))) fun W4 hW4 => ?_
    clear hK K
    have HS4 := onS hW4 (HS3.out.st3 0 rfl _ _ _)
    have HCp4 := hide (onto_cell hW4 (st3_cell hp0 HCp3.out _ _ _))
    clear HCp3
    have HCa4 := hide (onto_cell hW4 (st3_cell hb0 HCa3.out _ _ _))
    clear HCa3
    have HCb4 := hide (onto_cell hW4 (st3_cell hb0 HCb3.out _ _ _))
    clear HCb3
    have HCc4 := hide (onto_cell hW4 (st3_cell hb0 HCc3.out _ _ _))
    clear HCc3
    clear hW4 HS3
    clear p0
    have hSn := And.intro (HCp4.out) (And.intro (HCa4.out) (And.intro (HCb4.out) (HCc4.out)))
    refine wpAnyH_done (by kernel_rfl) ?_ _
    clear hSn
    go_wp2_with fail
    exact ⟨⟨q + 1, d'.kids[j], k', s', y', m', c', by go_num, by omega, HS4.out, HK.out, HAT2.out⟩, by simp [intOf]; omega⟩
   have hat2 : atN p d = none := by
     rw [HAT.out, atN_drop hlt, HX.out]
     have : kidI d'.kids x = none := by
       cases hkk : kidI d'.kids x with
       | none => rfl
       | some z =>
         obtain ⟨h1, h2⟩ := kidI_some hkk
         exact absurd ⟨h1, (List.getElem?_eq_some_iff.1 h2).1⟩ hin
     rw [this]; rfl
   have HAT2 := hide hat2
   clear hat2 hsl
   by_cases hx0 : x < 0
   ·
    clear hin
    have p0 := rD HSr
    go_wp2_with fail
    go_quiet (fail)
    all_goals
      go_wp2_with fail
      rw [HAT2.out]
      exact ended_nb_ rfl rfl rfl ((((HSr.out).drN _).st3 1 rfl _ _ _).get 1 rfl) ⟨rfl, (((HSr.out).drN _).st3 1 rfl _ _ _).below⟩
   have hxm : (m : Int) ≤ x := by omega
   clear hin
   have p0 := rD HSr
   go_wp2_with fail
   go_quiet (fail)
   all_goals
     go_wp2_with fail
     rw [HAT2.out]
     exact ended_nb_ rfl rfl rfl ((((HSr.out).drN _).st3 1 rfl _ _ _).get 1 rfl) ⟨rfl, (((HSr.out).drN _).st3 1 rfl _ _ _).below⟩
  have hlti : ¬ (q : Int) < (p.length : Int) := by omega
  have hat2 : atN p d = some d' := by rw [HAT.out, List.drop_eq_nil_of_le (by omega), atN]
  have HAT2 := hide hat2
  clear hat2
  have p0 := rD HSr
  go_wp2_with fail
  refine namedPost fun W5 hW5 => ?_
  have HS5 := onS hW5 (HSr.out.st3 1 rfl _ _ _)
  clear hW5 HSr
  clear p0
  rw [HAT2.out]
  exact ended_nb_ rfl rfl rfl (HS5.out.get 1 rfl) ⟨⟨_, _, _, _, _, rfl, HD'.out.below HS5.out.below HS5.out.below.size⟩, HS5.out.below⟩
end Go.Proofs.Ytacgmmpdichlmaa
namespace Go.Proofs.Ytacgmmpdichlmaa
open Go.RowKit
attribute [local go_sem ↓] Go.wp_at_zero Go.wp_at_succ

/-- All but block g is as it was. -/
structure Gb (g : Nat) (W W' : World) : Prop where
  below : Below g W W'
  keep : ∀ k, k < W.heap.size → k ≠ g → W'.heap[k]? = W.heap[k]?
theorem Gb.refl (g : Nat) (W : World) : Gb g W W := ⟨Below.refl _ _, fun _ _ _ => rfl⟩
theorem Gb.trans {g : Nat} {X Y Z : World} (h : Gb g X Y) (k : Gb g Y Z) : Gb g X Z := ⟨h.below.trans k.below, fun i hi hn => (k.keep i (Nat.lt_of_lt_of_le hi h.below.size) hn).trans (h.keep i hi hn)⟩
theorem Gb.of {g : Nat} {X Y : World} (h : Below X.heap.size X Y) (hg : g < X.heap.size) : Gb g X Y := ⟨h.mono (by omega), fun i hi _ => h.block i hi⟩
theorem Gb.al {g : Nat} {X Y : World} (h : Gb g X Y) (o : Obj) (hg : g < X.heap.size) : Gb g X (Y.alloc o) := h.trans (Gb.of ((Below.refl _ Y).alloc (Nat.le_refl _) o) (Nat.lt_of_lt_of_le hg h.below.size))
theorem Gb.drN {g : Nat} {X Y : World} (h : Gb g X Y) (n : Nat) : Gb g X (Y.drewN n) := ⟨below_drewN h.below n, h.keep⟩
theorem Gb.st {g : Nat} {X Y : World} (h : Gb g X Y) (i : Nat) (v : Value) : Gb g X (Y.setCell ⟨g, i, none⟩ v) := ⟨h.below.setCell (Nat.le_refl _) v, fun k hk hn => (Below.heap_setCell Y ⟨g, i, none⟩ v k (show k ≠ g from hn)).trans (h.keep k hk hn)⟩
/-- The generator's variable, in block g; its choices lie below block B. -/
structure GS (B g : Nat) (a : Option Addr) (m cap : Nat) (c : List Int) (W : World) : Prop where
  lo : B ≤ g
  var : ∃ k : Nat, k ≤ m ∧ Blk W g 63 #[.slice a m cap, .int .i64 k]
  bytes : IsBytes W (· < B) a m c
theorem IsBytes.keep {w w' : World} {F F' : Nat → Prop} {a : Option Addr} {n : Nat} {c : List Int} (h : IsBytes w F a n c) (hF : ∀ b, F b → F' b ∧ w'.heap[b]? = w.heap[b]?) : IsBytes w' F' a n c := by
  obtain ⟨h1, h2, h3, h4⟩ := h
  refine ⟨h1, h2, h3, fun hne => ?_⟩
  obtain ⟨b, o, ha, hb, hc⟩ := h4 hne
  exact ⟨b, o, ha, (hF b hb).1, fun k x hx => (World.cell?_of_block (w := w) (a := ⟨b, o + k, none⟩) (hF b hb).2).trans (hc k x hx)⟩
theorem GS.lt {B g : Nat} {a : Option Addr} {m cap : Nat} {c : List Int} {W : World} (h : GS B g a m cap c W) : g < W.heap.size := by
  obtain ⟨k, -, hb⟩ := h.var
  exact hb.lt
theorem GS.below {B g : Nat} {a : Option Addr} {m cap : Nat} {c : List Int} {W W' : World} (h : GS B g a m cap c W) (hb : Below W.heap.size W W') : GS B g a m cap c W' := by
  have hlt := h.lt
  have hlo := h.lo
  obtain ⟨k, hk, hv⟩ := h.var
  exact ⟨hlo, ⟨k, hk, hv.below hb hlt⟩, h.bytes.keep fun b hb' => ⟨hb', hb.block b (by omega)⟩⟩
/-- What a call of the generator hands back. -/
def GP (B g : Nat) (a : Option Addr) (m cap : Nat) (c : List Int) (N : Nat) (w : World) (e : Ending) (w' : World) : Prop := (∃ s : ByteArray, e = .returned (.string s) ∧ s.size ≤ N) ∧ Gb g w w' ∧ GS B g a m cap c w'
section
variable {B g : Nat} {a : Option Addr} {m cap : Nat} {c : List Int}
set_option maxRecDepth 100000 in
set_option maxHeartbeats 4000000 in
theorem gnext_any {W : World} (hG : GS B g a m cap c W) (n : Int) (hn : 1 ≤ n) (hn2 : n ≤ 1000) :
    Calls Try.prog 27 #[.pointer (some ⟨g, 0, none⟩), .int .i64 n] W fun e W' => (∃ r : Nat, e = .returned (.int .i64 r) ∧ (r : Int) < n) ∧ Gb g W W' ∧ GS B g a m cap c W' := by
  have hlo := hG.lo
  have hlt := hG.lt
  obtain ⟨k, hk, hv⟩ := hG.var
  have HBY := hide hG.bytes
  have hmm := hG.bytes.2.1
  have hml := hG.bytes.1
  simp only [maxLen] at hmm
  have HV := hide hv
  have p0 := hv.see2
  have HG := hide hG
  clear hv hG
  have hnl : ¬ n < 1 := by omega
  have hn0 : ¬ n = 0 := by omega
  by_cases hkm : k < m
  · obtain ⟨b, o, rfl, hFb, g0, b00, b01⟩ := HBY.out.get (k := k) (by omega)
    obtain ⟨x0, hx0⟩ : ∃ x0, c[k] = x0 := ⟨_, rfl⟩
    rw [hx0] at g0 b00 b01
    have hFb2 : b < B := hFb
    clear hx0 hml
    have hkmi : ¬ (m : Int) ≤ (k : Int) := by omega
    have e1 : IntKind.i64.wrap ((k : Int) + 1) = ((k + 1 : Nat) : Int) := IntWalk.i64_in _ (by omega)
    have e2 : IntKind.i64.wrap (((k + 1 : Nat) : Int) - 1) = (k : Int) := by rw [Int.natCast_add]; exact (IntWalk.i64_in _ (by omega)).trans (by omega)
    have e3 : IntKind.i64.wrap x0 = x0 := IntWalk.i64_in _ (by omega)
    have hki : (k : Int) < (m : Int) := by omega
    go_enter Try.func27, Try.ntmps27
    go_wp2_with fail
    go_quiet (fail)
    go_wp2_with fail
    refine namedWp fun W5 hW5 => ?_
    have hg5 : Gb g W W5 := hW5 ▸ ((Gb.refl g W).drN _).st _ _
    have hv5 : Blk W5 g 63 #[.slice (some ⟨b, o, none⟩) m cap, .int .i64 ((k + 1 : Nat) : Int)] := by
      rw [hW5]
      exact (HV.out.drewN nq).set_ 1 (.int .i64 ((k : Int) + 1))
    have HV5 := hide hv5
    have HG5 := hide hg5
    have q0 := hv5.see2
    have g5 : W5.cell? ⟨b, o + k, none⟩ = some (.int .u8 x0) := (World.cell?_of_block (w := W) (a := ⟨b, o + k, none⟩) (hg5.keep b (by omega) (show b ≠ g by omega))).trans g0
    clear hW5 hg5 hv5 g0 p0
    go_wp2_with fail
    go_quiet (fail)
    go_wp2_with fail
    go_ret
    have hm0 : 0 ≤ x0 % n := Int.emod_nonneg _ (by omega)
    have hm1 : x0 % n < n := Int.emod_lt_of_pos _ (by omega)
    refine ⟨⟨(x0 % n).toNat, by rw [Int.toNat_of_nonneg hm0]; rfl, by omega⟩, HG5.out.drN _, ⟨hlo, ⟨k + 1, by omega, HV5.out.drewN _⟩, HBY.out.keep fun b' hb' => ⟨hb', HG5.out.keep b' (by omega) (show b' ≠ g by omega)⟩⟩⟩
  · have hkmi : (m : Int) ≤ (k : Int) := by omega
    have dmk : decide (m ≤ k) = true := by simp; omega
    clear hml hkm
    go_enter Try.func27, Try.ntmps27
    go_wp2_with fail
    go_quiet (fail)
    go_wp2_with fail
    go_ret
    exact ⟨⟨0, rfl, by omega⟩, (Gb.refl g W).drN _, HG.out.below (below_drewN (Below.refl _ W) _)⟩
end
end Go.Proofs.Ytacgmmpdichlmaa
namespace Go.Proofs.Ytacgmmpdichlmaa
open Go.RowKit
attribute [local go_sem ↓] Go.wp_at_zero Go.wp_at_succ

/-- The generator at X, on the way from W. -/
structure Gg (B g : Nat) (a : Option Addr) (m cap : Nat) (c : List Int) (W X : World) : Prop where
  gb : Gb g W X
  gs : GS B g a m cap c X
/-- A text of at most N bytes. -/
def GT (B g : Nat) (a : Option Addr) (m cap : Nat) (c : List Int) (W : World) (N : Nat) (e : Ending) (X : World) : Prop := (∃ s : ByteArray, e = .returned (.string s) ∧ s.size ≤ N) ∧ Gg B g a m cap c W X
section
variable {B g : Nat} {a : Option Addr} {m cap : Nat} {c : List Int} {W X : World}
theorem GS.refl (h : GS B g a m cap c W) : Gg B g a m cap c W W := ⟨Gb.refl _ _, h⟩
theorem Gg.to {Y : World} (h : Gg B g a m cap c W X) (k : Gg B g a m cap c X Y) : Gg B g a m cap c W Y := ⟨h.gb.trans k.gb, k.gs⟩
theorem Gg.al (h : Gg B g a m cap c W X) (o : Obj) : Gg B g a m cap c W (X.alloc o) := h.to ⟨Gb.of ((Below.refl _ X).alloc (Nat.le_refl _) o) h.gs.lt, h.gs.below ((Below.refl _ X).alloc (Nat.le_refl _) o)⟩
theorem Gg.drN (h : Gg B g a m cap c W X) (n : Nat) : Gg B g a m cap c W (X.drewN n) := h.to ⟨(Gb.refl _ X).drN n, h.gs.below (below_drewN (Below.refl _ X) n)⟩
theorem gnextN (h : Gg B g a m cap c W X) (n : Int) (hn : 1 ≤ n := by omega) (hn2 : n ≤ 1000 := by omega) :
    Calls Try.prog 27 #[.pointer (some ⟨g, 0, none⟩), .int .i64 n] X fun e Y => (∃ r : Nat, e = .returned (.int .i64 r) ∧ (r : Int) < n) ∧ Gg B g a m cap c W Y :=
  (gnext_any h.gs n hn hn2).mono fun _ _ ⟨he, hb, hs⟩ => ⟨he, h.to ⟨hb, hs⟩⟩
theorem gnext (h : Gg B g a m cap c W X) (n : Int) (hn : 1 ≤ n := by omega) (hn2 : n ≤ 1000 := by omega) :
    Calls Try.prog 27 #[.pointer (some ⟨g, 0, none⟩), .int .i64 n] X fun e Y => (∃ r : Int, e = .returned (.int .i64 r) ∧ 0 ≤ r ∧ r < n) ∧ Gg B g a m cap c W Y :=
  (gnextN h n hn hn2).mono fun _ _ ⟨⟨r, e, hr⟩, hY⟩ => ⟨⟨r, e, by omega, hr⟩, hY⟩
theorem bsz (x : Array UInt8) : (ByteArray.mk x).size = x.size := rfl
def words : List Value → Bool
  | [] => true
  | .string s :: l => decide (s.size ≤ 9) && words l
  | _ :: _ => false
theorem words_get : ∀ {l : List Value} {i : Nat}, words l = true → i < l.length → ∃ s : ByteArray, l[i]? = some (.string s) ∧ s.size ≤ 9
  | .string s :: l, 0, h, _ => ⟨s, rfl, by simp [words] at h; exact h.1⟩
  | .string s :: l, i + 1, h, hi => by
    simp [words] at h
    simpa using words_get h.2 (by simpa using hi)
set_option maxRecDepth 100000 in
set_option maxHeartbeats 4000000 in
theorem gof {cs : Array Value} {n : Nat} (h : Gg B g a m cap c W X) (hn : cs.size = n := by rfl) (h0 : 0 < n := by omega) (h1 : n ≤ 1000 := by omega) (hw : words cs.toList = true := by rfl) :
    Calls Try.prog 43 #[.pointer (some ⟨g, 0, none⟩), .slice (some ⟨X.heap.size, 0, none⟩) n n] (X.alloc (.cells cs 9)) (GT B g a m cap c W 9) := by
  have hg := h.al (.cells cs 9)
  have hb := Blk.new X 9 cs
  have hgb : X.heap.size ≠ g := by have := h.gs.lt; omega
  revert hg hb hgb
  generalize X.heap.size = b
  generalize X.alloc (.cells cs 9) = Y
  clear h
  intro hg hb hgb
  have HG := hide hg
  have HB := hide hb
  clear hg hb
  have hn0 : (n : Int) ≠ 0 := by omega
  go_enter Try.func43, Try.ntmps43
  go_wp2_with fail
  refine (gnextN HG.out.gs.refl n).mono ?_
  rintro e Z ⟨⟨r, rfl, hr⟩, hz⟩
  have hrn : r < n := by omega
  obtain ⟨x, hx, hxs⟩ := words_get (l := cs.toList) (i := r) hw (by simpa [hn] using hrn)
  have hbZ : Blk Z b 9 cs := (hz.gb.keep b HB.out.lt hgb).trans HB.out
  have hxc : Z.cell? ⟨b, r, none⟩ = some (.string x) := by
    exact (hbZ.cell r).trans (by simpa using hx)
  have HZ := hide (HG.out.to hz)
  clear hz hbZ hw
  have hri : (r : Int) < (n : Int) := hr
  go_wp2_with fail
  go_ret
  exact ⟨⟨x, rfl, hxs⟩, HZ.out⟩
set_option maxRecDepth 100000 in
set_option maxHeartbeats 4000000 in
theorem gname (h : Gg B g a m cap c W X) : Calls Try.prog 46 #[.pointer (some ⟨g, 0, none⟩)] X (GT B g a m cap c W 9) := by
  go_enter Try.func46, Try.ntmps46
  go_wp2_with fail
  refine (gof h).mono ?_
  rintro e Y ⟨⟨s, rfl, hs⟩, hY⟩
  go_wp2_with fail
  go_ret
  exact ⟨⟨s, rfl, hs⟩, hY⟩
set_option maxRecDepth 100000 in
set_option maxHeartbeats 4000000 in
theorem gparams (h : Gg B g a m cap c W X) : Calls Try.prog 47 #[.pointer (some ⟨g, 0, none⟩)] X (GT B g a m cap c W 9) := by
  go_enter Try.func47, Try.ntmps47
  go_wp2_with fail
  refine (gof h).mono ?_
  rintro e Y ⟨⟨s, rfl, hs⟩, hY⟩
  go_wp2_with fail
  go_ret
  exact ⟨⟨s, rfl, hs⟩, hY⟩
end
end Go.Proofs.Ytacgmmpdichlmaa
namespace Go.Proofs.Ytacgmmpdichlmaa
open Go.RowKit
attribute [local go_sem ↓] Go.wp_at_zero Go.wp_at_succ

/-- Pipe and Post answer with at most N bytes, at depths up to n. -/
structure Kg (B g : Nat) (a : Option Addr) (m cap : Nat) (c : List Int) (W : World) (n : Int) (N : Nat) : Prop where
  lo : 40 ≤ N
  hi : N ≤ 1000000000
  top : n ≤ 1000
  pipe : ∀ {X : World} (d : Int), -1 ≤ d → d ≤ n → Gg B g a m cap c W X → Calls Try.prog 28 #[.pointer (some ⟨g, 0, none⟩), .int .i64 d] X (GT B g a m cap c W N)
  post : ∀ {X : World} (d : Int), -1 ≤ d → d ≤ n → Gg B g a m cap c W X → Calls Try.prog 44 #[.pointer (some ⟨g, 0, none⟩), .int .i64 d] X (GT B g a m cap c W N)
section
variable {B g : Nat} {a : Option Addr} {m cap : Nat} {c : List Int} {W X : World} {n : Int} {N : Nat}
set_option maxRecDepth 100000 in
set_option maxHeartbeats 4000000 in
theorem gargs (K : Hid (Kg B g a m cap c W n N)) (h : Gg B g a m cap c W X) (d : Int) (hd : -1 ≤ d) (hdn : d ≤ n) : Calls Try.prog 59 #[.pointer (some ⟨g, 0, none⟩), .int .i64 d] X (GT B g a m cap c W (2 * N + 10)) := by
  have hN := K.out.hi
  have hL := K.out.lo
  have hT := K.out.top
  go_enter Try.func59, Try.ntmps59
  go_wp2_with fail
  refine (K.out.pipe (d) (by omega) (by omega) h).mono ?_
  rintro e X1 ⟨⟨s1, rfl, h1⟩, hX1⟩
  go_wp2_with fail
  refine (gnext hX1 2).mono ?_
  rintro e X2 ⟨⟨r2, rfl, hr2, hs2⟩, hX2⟩
  by_cases hb2 : r2 = 1
  ·
    go_wp2_with fail
    refine (K.out.pipe (d) (by omega) (by omega) hX2).mono ?_
    rintro e X3 ⟨⟨s3, rfl, h3⟩, hX3⟩
    go_wp2_with fail
    go_ret
    exact ⟨⟨_, rfl, by first | omega | (simp only [ByteArray.size_append, bsz, List.size_toArray, List.length_cons, List.length_nil]; omega)⟩, hX3⟩
  ·
    go_wp2_with fail
    go_ret
    exact ⟨⟨_, rfl, by first | omega | (simp only [ByteArray.size_append, bsz, List.size_toArray, List.length_cons, List.length_nil]; omega)⟩, hX2⟩
set_option maxRecDepth 100000 in
set_option maxHeartbeats 4000000 in
theorem gpattern (K : Hid (Kg B g a m cap c W n N)) (h : Gg B g a m cap c W X) (d : Int) (hd : 0 ≤ d) (hdn : d - 1 ≤ n) : Calls Try.prog 45 #[.pointer (some ⟨g, 0, none⟩), .int .i64 d] X (GT B g a m cap c W (N + 60)) := by
  have hN := K.out.hi
  have hL := K.out.lo
  have hT := K.out.top
  have e1 : IntKind.i64.wrap (d - 1) = d - 1 := IntWalk.i64_in _ (by omega)
  go_enter Try.func45, Try.ntmps45
  go_wp2_with fail
  refine (gnext h 6).mono ?_
  rintro e X1 ⟨⟨r1, rfl, hr1, hs1⟩, hX1⟩
  obtain rfl | rfl | rfl | rfl | rfl | rfl : r1 = 0 ∨ r1 = 1 ∨ r1 = 2 ∨ r1 = 3 ∨ r1 = 4 ∨ r1 = 5 := by omega
  ·
    go_wp2_with fail
    refine (gname hX1).mono ?_
    rintro e X2 ⟨⟨s2, rfl, h2⟩, hX2⟩
    go_wp2_with fail
    refine (gname hX2).mono ?_
    rintro e X3 ⟨⟨s3, rfl, h3⟩, hX3⟩
    go_wp2_with fail
    go_ret
    exact ⟨⟨_, rfl, by first | omega | (simp only [ByteArray.size_append, bsz, List.size_toArray, List.length_cons, List.length_nil]; omega)⟩, hX3⟩
  ·
    go_wp2_with fail
    refine (gname hX1).mono ?_
    rintro e X2 ⟨⟨s2, rfl, h2⟩, hX2⟩
    go_wp2_with fail
    refine (gname hX2).mono ?_
    rintro e X3 ⟨⟨s3, rfl, h3⟩, hX3⟩
    go_wp2_with fail
    go_ret
    exact ⟨⟨_, rfl, by first | omega | (simp only [ByteArray.size_append, bsz, List.size_toArray, List.length_cons, List.length_nil]; omega)⟩, hX3⟩
  ·
    go_wp2_with fail
    refine (gname hX1).mono ?_
    rintro e X2 ⟨⟨s2, rfl, h2⟩, hX2⟩
    go_wp2_with fail
    refine (gname hX2).mono ?_
    rintro e X3 ⟨⟨s3, rfl, h3⟩, hX3⟩
    go_wp2_with fail
    go_ret
    exact ⟨⟨_, rfl, by first | omega | (simp only [ByteArray.size_append, bsz, List.size_toArray, List.length_cons, List.length_nil]; omega)⟩, hX3⟩
  ·
    go_wp2_with fail
    refine (K.out.pipe (d - 1) (by omega) (by omega) hX1).mono ?_
    rintro e X2 ⟨⟨s2, rfl, h2⟩, hX2⟩
    go_wp2_with fail
    refine (gname hX2).mono ?_
    rintro e X3 ⟨⟨s3, rfl, h3⟩, hX3⟩
    go_wp2_with fail
    go_ret
    exact ⟨⟨_, rfl, by first | omega | (simp only [ByteArray.size_append, bsz, List.size_toArray, List.length_cons, List.length_nil]; omega)⟩, hX3⟩
  ·
    go_wp2_with fail
    refine (gname hX1).mono ?_
    rintro e X2 ⟨⟨s2, rfl, h2⟩, hX2⟩
    go_wp2_with fail
    go_ret
    exact ⟨⟨_, rfl, by first | omega | (simp only [ByteArray.size_append, bsz, List.size_toArray, List.length_cons, List.length_nil]; omega)⟩, hX2⟩
  ·
    go_wp2_with fail
    refine (gname hX1).mono ?_
    rintro e X2 ⟨⟨s2, rfl, h2⟩, hX2⟩
    go_wp2_with fail
    go_ret
    exact ⟨⟨_, rfl, by first | omega | (simp only [ByteArray.size_append, bsz, List.size_toArray, List.length_cons, List.length_nil]; omega)⟩, hX2⟩
end
end Go.Proofs.Ytacgmmpdichlmaa
namespace Go.Proofs.Ytacgmmpdichlmaa
open Go.RowKit
attribute [local go_sem ↓] Go.wp_at_zero Go.wp_at_succ

section
variable {B g : Nat} {a : Option Addr} {m cap : Nat} {c : List Int} {W X : World} {n : Int} {N : Nat}
set_option maxRecDepth 100000 in
set_option maxHeartbeats 4000000 in
theorem gobject (K : Hid (Kg B g a m cap c W n N)) (h : Gg B g a m cap c W X) (d : Int) (hd : -1 ≤ d) (hdn : d ≤ n) : Calls Try.prog 58 #[.pointer (some ⟨g, 0, none⟩), .int .i64 d] X (GT B g a m cap c W (6 * N + 140)) := by
  have hN := K.out.hi
  have hL := K.out.lo
  have hT := K.out.top
  have e1 : IntKind.i64.wrap (0 + 1) = 1 := rfl
  go_enter Try.func58, Try.ntmps58
  go_wp2_with fail
  refine (gnext h 3).mono ?_
  rintro e X1 ⟨⟨r1, rfl, hr1, hs1⟩, hX1⟩
  go_wp2_with fail
  go_loopw [5, 7] (fun sv iv wr => ∃ (q : Nat) (s : ByteArray), (q : Int) ≤ r1 + 1 ∧ iv = .int .i64 q ∧ sv = .string s ∧ s.size ≤ 1 + q * (2 * N + 40) ∧ Gg B g a m cap c W wr) (fun _ iv _ => 3 - (intOf iv).toNat)
  case atStart => exact ⟨0, _, by omega, rfl, rfl, by simp [bsz], hX1⟩
  case round =>
    obtain ⟨q, s, hq, rfl, rfl, hs, hX⟩ := hrel
    have hq3 : q ≤ 3 := by omega
    have hsz : s.size ≤ 1 + 6 * N + 120 := by have : q * (2 * N + 40) ≤ 3 * (2 * N + 40) := Nat.mul_le_mul_right _ hq3; omega
    by_cases hlt : (q : Int) ≤ r1
    ·
      have hsq : s.size + (2 * N + 40) ≤ 1 + (q + 1) * (2 * N + 40) := by have := Nat.succ_mul q (2 * N + 40); simp only [Nat.succ_eq_add_one] at this; omega
      have e2 : IntKind.i64.wrap ((q : Int) + 1) = ((q + 1 : Nat) : Int) := IntWalk.i64_in _ (by omega)
      by_cases h0 : (q : Int) > 0
      ·
        go_wp2_with fail
        refine (gof hX).mono ?_
        rintro e X2 ⟨⟨s2, rfl, h2⟩, hX2⟩
        go_wp2_with fail
        refine (gnext hX2 3).mono ?_
        rintro e X3 ⟨⟨r3, rfl, hr3, hs3⟩, hX3⟩
        by_cases hb3 : r3 = 1
        ·
          go_wp2_with fail
          refine (K.out.pipe (d) (by omega) (by omega) hX3).mono ?_
          rintro e X4 ⟨⟨s4, rfl, h4⟩, hX4⟩
          go_wp2_with fail
          refine (K.out.post (d) (by omega) (by omega) hX4).mono ?_
          rintro e X5 ⟨⟨s5, rfl, h5⟩, hX5⟩
          go_wp2_with fail
          exact ⟨⟨q + 1, _, by omega, by go_num, rfl, by first | omega | (simp only [ByteArray.size_append, bsz, List.size_toArray, List.length_cons, List.length_nil]; omega), hX5⟩, by simp [intOf]; omega⟩
        ·
          go_wp2_with fail
          exact ⟨⟨q + 1, _, by omega, by go_num, rfl, by first | omega | (simp only [ByteArray.size_append, bsz, List.size_toArray, List.length_cons, List.length_nil]; omega), hX3⟩, by simp [intOf]; omega⟩
      ·
        go_wp2_with fail
        refine (gof hX).mono ?_
        rintro e X2 ⟨⟨s2, rfl, h2⟩, hX2⟩
        go_wp2_with fail
        refine (gnext hX2 3).mono ?_
        rintro e X3 ⟨⟨r3, rfl, hr3, hs3⟩, hX3⟩
        by_cases hb3 : r3 = 1
        ·
          go_wp2_with fail
          refine (K.out.pipe (d) (by omega) (by omega) hX3).mono ?_
          rintro e X4 ⟨⟨s4, rfl, h4⟩, hX4⟩
          go_wp2_with fail
          refine (K.out.post (d) (by omega) (by omega) hX4).mono ?_
          rintro e X5 ⟨⟨s5, rfl, h5⟩, hX5⟩
          go_wp2_with fail
          exact ⟨⟨q + 1, _, by omega, by go_num, rfl, by first | omega | (simp only [ByteArray.size_append, bsz, List.size_toArray, List.length_cons, List.length_nil]; omega), hX5⟩, by simp [intOf]; omega⟩
        ·
          go_wp2_with fail
          exact ⟨⟨q + 1, _, by omega, by go_num, rfl, by first | omega | (simp only [ByteArray.size_append]; omega), hX3⟩, by simp [intOf]; omega⟩
    ·
      go_wp2_with fail
      go_ret
      exact ⟨⟨_, rfl, by first | omega | (simp only [ByteArray.size_append, bsz, List.size_toArray, List.length_cons, List.length_nil]; omega)⟩, hX⟩
end
end Go.Proofs.Ytacgmmpdichlmaa
namespace Go.Proofs.Ytacgmmpdichlmaa
open Go.RowKit

def Fy (F : Nat → Prop) (w W : World) (G : List Nat) (b : Nat) : Prop := (F b ∧ b < w.heap.size) ∨ Nf w W G b
structure Ny (F : Nat → Prop) (w W : World) (G : List Nat) (d : Nd) (v : Value) : Prop where
  nd : IsNd W (Fy F w W G) d v
  size : w.heap.size ≤ W.heap.size
  mem : ∀ g ∈ G, w.heap.size ≤ g
/-- A row's cells. -/
structure Ry (F : Nat → Prop) (w W : World) (G : List Nat) (ds : List Nd) (xs : List Value) : Prop where
  row : IsRow W (Fy F w W G) xs ds
/-- A slice of nodes. -/
structure Sy (F : Nat → Prop) (w W : World) (G : List Nat) (ds : List Nd) (v : Value) : Prop where
  sl : IsSl W (Fy F w W G) ds v
  size : w.heap.size ≤ W.heap.size
  mem : ∀ g ∈ G, w.heap.size ≤ g

section
variable {F : Nat → Prop} {w W W' : World} {G G' : List Nat} {d : Nd} {ds : List Nd} {v : Value} {xs : List Value}
theorem Ny.call (h : Ny F w W G d v) (hb : Below W.heap.size W W') : Ny F w W' G d v :=
  ⟨IsNd.keep (fun b hb' => by
    rcases hb' with hb' | hb'
    · exact ⟨Or.inl hb', hb.block b (Nat.lt_of_lt_of_le hb'.2 h.size)⟩
    · exact ⟨Or.inr (Nf.go hb b hb').1, (Nf.go hb b hb').2⟩) _ _ h.nd, Nat.le_trans h.size hb.size, h.mem⟩
theorem Ny.onto (e : W' = W) (h : Ny F w W G d v) : Ny F w W' G d v := e ▸ h
theorem Ny.al (h : Ny F w W G d v) (o : Obj) : Ny F w (W.alloc o) G d v := h.call ((Below.refl _ W).alloc (Nat.le_refl _) o)
theorem Ny.dr (h : Ny F w W G d v) : Ny F w W.drew G d v := ⟨IsNd.keep (w := W) (w' := W.drew) (F := Fy F w W G) (F' := Fy F w W.drew G) (fun _ hb => ⟨hb, rfl⟩) _ _ h.nd, h.size, h.mem⟩
theorem Ny.var (h : Ny F w W G d v) {g : Nat} (hg : g = W.heap.size) (o : Obj) : Ny F w (W.alloc o) (G ++ [g]) d v :=
  ⟨IsNd.keep (fun b hb' => by
    rcases hb' with hb' | hb'
    · exact ⟨Or.inl hb', Below.heap_alloc W o b (Nat.lt_of_lt_of_le hb'.2 h.size)⟩
    · exact ⟨Or.inr (Nf.var hg b hb' o).1, (Nf.var hg b hb' o).2⟩) _ _ h.nd, by have := h.size; simp; omega, fun x hx => by
    rw [List.mem_append, List.mem_singleton] at hx
    rcases hx with hx | rfl
    · exact h.mem x hx
    · rw [hg]; exact h.size⟩
theorem Ny.st (h : Ny F w W G d v) {g : Nat} (hg : g ∈ G) (i : Nat) (u : Value) : Ny F w (W.setCell ⟨g, i, none⟩ u) G d v :=
  ⟨IsNd.keep (fun b hb' => by
    rcases hb' with hb' | hb'
    · exact ⟨Or.inl hb', Below.heap_setCell W ⟨g, i, none⟩ u b (fun e => by have h1 := h.mem g hg; have h2 := hb'.2; have h3 : b = g := e; omega)⟩
    · exact ⟨Or.inr (Nf.st g hg i u b hb').1, (Nf.st g hg i u b hb').2⟩) _ _ h.nd, by simpa using h.size, h.mem⟩
theorem Ny.st3 (h : Ny F w W G d v) {g : Nat} (hg : g ∈ G) (x y z : Value) : Ny F w (((W.setCell ⟨g, 0, none⟩ x).setCell ⟨g, 1, none⟩ y).setCell ⟨g, 2, none⟩ z) G d v := ((h.st hg 0 x).st hg 1 y).st hg 2 z
theorem Ny.fewer (h : Ny F w W G d v) (hG : ∀ g ∈ G', g ∈ G) : Ny F w W G' d v := ⟨IsNd.keep (fun b hb' => by
    rcases hb' with hb' | hb'
    · exact ⟨Or.inl hb', rfl⟩
    · exact ⟨Or.inr (Nf.fewer hG b hb').1, rfl⟩) _ _ h.nd, h.size, fun g hg => h.mem g (hG g hg)⟩
/-- A node that was there. -/
theorem Ny.old (h : IsNd w F d v) (hF : ∀ b, F b → b < w.heap.size) : Ny F w w [] d v := ⟨IsNd.keep (fun b hb => ⟨Or.inl ⟨hb, hF b hb⟩, rfl⟩) _ _ h, Nat.le_refl _, fun g h => by cases h⟩
/-- A node that a call at W made. -/
theorem Ny.made (h : IsNd W' (New W.heap.size W') d v) {V : List (Nat × TypeId × Array Value)} (hS : St w W V) (hb : Below W.heap.size W W') : Ny F w W' (V.map (·.1)) d v :=
  ⟨IsNd.keep (fun b hb => ⟨Or.inr ⟨Nat.le_trans hS.below.size hb.1, hb.2, fun e => by
    obtain ⟨x, hx, rfl⟩ := List.mem_map.1 e
    have := hS.lt hx
    have := hb.1
    omega⟩, rfl⟩) _ _ h, Nat.le_trans hS.below.size hb.size, fun g e => by
    obtain ⟨x, hx, rfl⟩ := List.mem_map.1 e
    exact (hS.vars x hx).1⟩
/-- Handed back. -/
theorem Ny.out (h : Ny F w W G d v) : IsNd W (fun b => (F b ∧ b < w.heap.size) ∨ New w.heap.size W b) d v := IsNd.keep (fun b hb => by
    rcases hb with hb | hb
    · exact ⟨Or.inl hb, rfl⟩
    · exact ⟨Or.inr ⟨hb.1, hb.2.1⟩, rfl⟩) _ _ h.nd
theorem Ny.leaf {k : Int} {s : ByteArray} {cap : Nat} {a : Option Addr} {V : List (Nat × TypeId × Array Value)} (hS : St w W V) (hk : -9223372036854775808 ≤ k ∧ k ≤ 9223372036854775807) (hs : s.size ≤ maxLen) : Ny F w W (V.map (·.1)) (.mk k s .nil) (.agg #[.int .i64 k, .string s, .slice a 0 cap]) :=
  ⟨IsNd.leaf hk hs, hS.below.size, fun g e => by
    obtain ⟨x, hx, rfl⟩ := List.mem_map.1 e
    exact (hS.vars x hx).1⟩
theorem Ry.nil : Ry F w W G [] [] := ⟨IsRow.nil⟩
theorem Ry.cons {c0 c1 c2 : Value} (h : Ny F w W G d (.agg #[c0, c1, c2])) (h' : Ry F w W G ds xs) : Ry F w W G (d :: ds) (c0 :: c1 :: c2 :: xs) := ⟨IsRow.cons.2 ⟨h.nd, h'.row⟩⟩
/-- Nodes that are laid in a slice. -/
theorem Ry.lit (h : Ry F w W G ds xs) {V : List (Nat × TypeId × Array Value)} (hS : St w W V) (hG : G = V.map (·.1)) (hl : ds.length ≤ maxLen) : Sy F w (W.alloc (.cells xs.toArray 25)) G ds (.slice (some ⟨W.heap.size, 0, none⟩) ds.length ds.length) :=
  ⟨IsSl.keep (fun b hb => ⟨by
    rcases hb with (hb | hb) | rfl
    · exact Or.inl hb
    · exact Or.inr ⟨hb.1, by simp; have := hb.2.1; omega, hb.2.2⟩
    · refine Or.inr ⟨hS.below.size, by simp, fun e => ?_⟩
      rw [hG] at e
      obtain ⟨x, hx, e⟩ := List.mem_map.1 e
      have := hS.lt hx
      omega, rfl⟩) (IsSl.lit (F := Fy F w W G) h.row (fun b hb => by
    rcases hb with hb | hb
    · have := hS.below.size; have := hb.2; omega
    · exact hb.2.1) hl), by have := hS.below.size; simp; omega, fun g e => by
    rw [hG] at e
    obtain ⟨x, hx, rfl⟩ := List.mem_map.1 e
    exact (hS.vars x hx).1⟩
/-- A node of Kids. -/
theorem Sy.join {k : Int} {s : ByteArray} (h : Sy F w W G ds v) (hk : -9223372036854775808 ≤ k ∧ k ≤ 9223372036854775807) (hs : s.size ≤ maxLen) : Ny F w W G (Nd.of k s ds) (.agg #[.int .i64 k, .string s, v]) := ⟨IsNd.join hk hs h.sl, h.size, h.mem⟩
/-- What was handed back, beside the caller's variables. -/
theorem Nx.within {w0 : World} {V : List (Nat × TypeId × Array Value)} (hS : St w0 w V) (hb : Below w.heap.size w W) (h : IsNd W (fun b => (Nf w0 w (V.map (·.1)) b ∧ b < w.heap.size) ∨ New w.heap.size W b) d v) : Nx w0 W (V.map (·.1)) d v :=
  IsNd.keep (fun b hb' => by
    rcases hb' with hb' | hb'
    · exact ⟨⟨hb'.1.1, Nat.lt_of_lt_of_le hb'.2 hb.size, hb'.1.2.2⟩, rfl⟩
    · refine ⟨⟨Nat.le_trans hS.below.size hb'.1, hb'.2, fun e => ?_⟩, rfl⟩
      obtain ⟨x, hx, rfl⟩ := List.mem_map.1 e
      have := hS.lt hx
      have := hb'.1
      omega) _ _ h
end
theorem need_in {l : List Tk} {a : Option Addr} {cap i : Nat} {w : World} {s : ByteArray} (hi : Its w a l) (hlt : i < l.length) (ho : opB (tokAt l i false) s = true) :
    Calls Try.prog 73 #[.agg #[.slice a l.length cap, .int .i64 i, .bool false], .string s] w fun e w' => (∃ j : Nat, e = .returned (.agg #[.slice a l.length cap, .int .i64 j, .bool false]) ∧ (i + 1 ≤ j ∧ j ≤ i + 1) ∧ j ≤ l.length ∧ leftP l.length j false < leftP l.length i false) ∧ Below w.heap.size w w' :=
  (need_op (cap := cap) hi (by have := hi.2.1; omega) ho).mono fun _ _ h => ⟨⟨i + 1, h.1, by omega, by omega, left_next hlt⟩, h.2⟩
theorem StepR.one {l : List Tk} {i i' : Nat} {bad bad' : Bool} (h : StepR l i bad i' bad') : (bad' = false ∧ i' = i + 1) ∨ (bad' = true ∧ i' = i) := by
  rcases h with ⟨_, _, h, h'⟩ | ⟨h, h'⟩
  · exact Or.inl ⟨h', h⟩
  · exact Or.inr ⟨h', h⟩
theorem cntL_four (a b c d : Nd) : cntL [a, b, c, d] = a.count + b.count + c.count + d.count := by simp [cntL]; omega
theorem left_b {n i j : Nat} {b : Bool} (h : leftP n i b ≤ leftP n j true) : b = true := by
  cases b with
  | true => rfl
  | false => rw [left_true, left_false] at h; omega
/-- A row that a call made. -/
theorem Hx.made {w w1 w' : World} {v : Value} {ds : List Nd} {V : List (Nat × TypeId × Array Value)} (h : Hx w1 w' [] v ds) (hS : St w w1 V) : Hx w w' (V.map (·.1)) v ds := by
  obtain ⟨xs, h1, -, h3, h4⟩ := h
  have hg : ∀ b, w1.heap.size ≤ b → b ∉ V.map (·.1) := fun b hb e => by
    obtain ⟨x, hx, rfl⟩ := List.mem_map.1 e
    have := hS.lt hx
    omega
  exact ⟨xs, ⟨h1.1, h1.2.imp id fun ⟨g, cap, cur, h1, h2, h3⟩ => ⟨g, cap, cur, h1, Nat.le_trans hS.below.size h2, h3⟩⟩, fun g e => hg g (h1.lt g e).1, h3.keep fun b hb => ⟨⟨⟨Nat.le_trans hS.below.size hb.1.1, hb.1.2.1, hg b hb.1.1⟩, hb.2⟩, rfl⟩, IsRow.nil⟩
theorem tokAt_text {l : List Tk} {i : Nat} {b : Bool} {c : UInt8} {cs : List UInt8} (h : ((tokAt l i b).text.toList == c :: cs) = true) : b = false ∧ i < l.length := by
  have h0 : Tk.no.text.toList = [] := by rw [Lib.toList_data]; rfl
  cases b with
  | true => rw [tokAt_bad, h0] at h; cases h
  | false =>
    by_cases hlt : i < l.length
    · exact ⟨rfl, hlt⟩
    · rw [tokAt_end (by omega), h0] at h; cases h
/-- What 'key' hands back: besides, does it need something behind it? -/
def KN (l : List Tk) (a : Option Addr) (cap : Nat) (w : World) (i : Nat) (bad : Bool) (C : Nat) (e : Ending) (w' : World) : Prop :=
  (∃ (i' : Nat) (bad' : Bool) (d : Nd) (k : Int) (s : ByteArray) (y : Option Addr) (m c : Nat) (mu : Bool), e = .returned (.tuple #[.agg #[.slice a l.length cap, .int .i64 i', .bool bad'], .agg #[.int .i64 k, .string s, .slice y m c], .bool mu]) ∧
    IsNd w' (New w.heap.size w') d (.agg #[.int .i64 k, .string s, .slice y m c]) ∧ (i ≤ i' ∧ i' ≤ l.length ∧ leftP l.length i' bad' ≤ leftP l.length i bad) ∧ d.count + 8 * i ≤ 8 * i' + C) ∧ Below w.heap.size w w'
theorem ended_pnb {fn : Func} {p q r : Tmp} {tmps : Array Value} {W : World} {R : Ending → World → Prop} {g g' : Nat} {x0 x1 x2 y0 y1 y2 z : Value} (hr : fn.results = #[.cell p 79, .cell q 25, .tmp r]) (hp : tmps.getD p undef = .pointer (some ⟨g, 0, none⟩)) (hq : tmps.getD q undef = .pointer (some ⟨g', 0, none⟩)) (hz : tmps.getD r undef = z)
    (h0 : Blk W g 79 #[x0, x1, x2]) (h1 : Blk W g' 25 #[y0, y1, y2]) (hd : R (.returned (.tuple #[.agg #[x0, x1, x2], .agg #[y0, y1, y2], z])) W) : bodyPost Try.prog fn R .ret { tmps := tmps, defers := [] } W := by
  refine bodyPost_ret (v := .tuple #[.agg #[x0, x1, x2], .agg #[y0, y1, y2], z]) ?_ rfl hd
  have e0 := run_loadVar_row (P := Try.prog) W g 79 79 _ (0, 0) _ h0 Try.underlying79 rfl (by kernel_rfl)
  have e1 := run_loadVar_row (P := Try.prog) W g' 25 25 _ (0, 0) _ h1 Try.underlying25 rfl (by kernel_rfl)
  simp only [Array.getD_eq_getD_getElem?] at hp hq hz
  simp [results, hr, hp, hq, hz, asAddr, e0, e1]
/-- What 'params' hands back: a place, and a row. -/
def LN (l : List Tk) (a : Option Addr) (cap : Nat) (w : World) (i : Nat) (bad : Bool) (e : Ending) (w' : World) : Prop :=
  (∃ (i' : Nat) (bad' : Bool) (ds : List Nd) (y : Option Addr) (m c : Nat), e = .returned (.tuple #[.agg #[.slice a l.length cap, .int .i64 i', .bool bad'], .slice y m c]) ∧
    Hx w w' [] (.slice y m c) ds ∧ (i ≤ i' ∧ i' ≤ l.length ∧ leftP l.length i' bad' ≤ leftP l.length i bad) ∧ cntL ds + 8 * i ≤ 8 * i') ∧ Below w.heap.size w w'
/-- What 'within' hands back. -/
def WN (F : Nat → Prop) (l : List Tk) (a : Option Addr) (cap : Nat) (w : World) (i : Nat) (C : Nat) (e : Ending) (w' : World) : Prop :=
  (∃ (i' : Nat) (bad' : Bool) (d : Nd) (k : Int) (s : ByteArray) (y : Option Addr) (m c : Nat), e = .returned (.tuple #[.agg #[.slice a l.length cap, .int .i64 i', .bool bad'], .agg #[.int .i64 k, .string s, .slice y m c]]) ∧
    IsNd w' (fun b => (F b ∧ b < w.heap.size) ∨ New w.heap.size w' b) d (.agg #[.int .i64 k, .string s, .slice y m c]) ∧ (i ≤ i' ∧ i' ≤ l.length ∧ leftP l.length i' bad' < leftP l.length i false) ∧ d.count + 8 * i ≤ 8 * i' + C) ∧ Below w.heap.size w w'
end Go.Proofs.Ytacgmmpdichlmaa
namespace Go.Proofs.Ytacgmmpdichlmaa
open Go.RowKit
attribute [local go_sem ↓] Go.wp_at_zero Go.wp_at_succ

set_option maxRecDepth 4000 in
set_option maxHeartbeats 4000000 in
theorem params_k {l : List Tk} {a : Option Addr} {cap : Nat} {i : Nat} {bad : Bool} {w : World} (hi : Its w a l) (hat : i ≤ l.length) : Calls Try.prog 76 #[.agg #[.slice a l.length cap, .int .i64 i, .bool bad]] w (LN l a cap w i bad) := by
  have hlen := hi.2.1
  go_enter Try.func76, Try.ntmps76
  go_wp2_with fail
  refine namedWp fun W1 hW1 => ?_
  have HS1 := onS hW1 (St.nil w).va.va
  clear hW1
  go_loopw [4] (fun z wr => ∃ (x : Nat) (b : Bool) (y : Option Addr) (q c : Nat) (ds : List Nd), z = .slice y q c ∧ St w wr [(w.heap.size, 79, #[.slice a l.length cap, .int .i64 x, .bool b]), (w.heap.size + 1, 79, #[.slice none 0 0, .int .i64 0, .bool false])] ∧ Hx w wr [w.heap.size, w.heap.size + 1] (.slice y q c) ds ∧ (i ≤ x ∧ x ≤ l.length ∧ leftP l.length x b ≤ leftP l.length i bad ∧ cntL ds + 8 * i ≤ 8 * x)) (fun _ wr => leftAt l.length w.heap.size wr)
  case atStart => exact ⟨i, bad, none, 0, 0, [], rfl, HS1.out, Hx.nil _ _ _, by omega, by omega, by omega, by rw [cntL_nil]; omega⟩
  obtain ⟨x, b, y, q, c, ds, rfl, hS, hH, hx1, hx2, hx3, hx4⟩ := hrel
  have hMp := hS.get 0 rfl
  have HSr := hide hS
  have HRk := hide hH
  clear hS hH HS1
  have hcl := len_cntL ds
  have p0 := rD HSr
  go_wp2_with fail
  obtain ⟨t2, ht2⟩ : ∃ t, tokAt l x b = t := ⟨_, rfl⟩
  have hok2 := tokAt_ok hi.2.2 x b
  rw [ht2] at hok2
  obtain ⟨hkb2, hz2, hone2⟩ := hok2
  have HT2 := hide ht2
  clear ht2
  have Hone2 := hide hone2
  clear hone2
  have hfa2 := fieldT0 t2.kind t2.text
  have hfb2 := fieldT1 t2.kind t2.text
  refine (tok_any (hi.below HSr.out.below)).mono ?_
  rintro e w3 ⟨rfl, hb3⟩
  rw [HT2.out]
  have HS3 := hide (HSr.out.call hb3)
  have HRk3 := hide (HRk.out.call hb3)
  clear HRk
  clear hb3 HSr
  clear p0
  have p0 := rD HS3
  go_wp2_with (refine stopAt 8 ?_)
  have lv4 := lV HS3
  refine namedStop fun W4 hW4 => ?_
  have HS4 := onS hW4 HS3.out.va
  have HRk4 := hide (Px.onto hW4 (HRk3.out.var (g := w3.heap.size) (by simp) _))
  clear HRk3
  clear hW4 HS3
  clear p0
  have p0 := rD HS4
  by_cases hk5 : t2.kind = 5
  ·
   have he6 : (t2.kind == 5) = true := by simpa using hk5
   have hn6 : (t2.kind != 5) = false := by simpa using hk5
   have HK6 := hide hk5
   clear hk5
   obtain ⟨rfl, hlt7⟩ := tokAt_kind (l := l) (i := x) (b := b) (by rw [HT2.out, HK6.out]; decide)
   have HRk8 := hide (show Px w W4 [w.heap.size, w.heap.size + 1, w3.heap.size] (.slice y q c) ds [.mk 30 t2.text .nil] [.int .i64 30, .string t2.text, .slice none 0 0] from Px.leaf HRk4.out (by omega) (by simp only [maxLen]; omega))
   clear HRk4
   have lv9 := lV HS4
   have hSt9 : St w W4 [pe w.heap.size a l cap x false, pz (w.heap.size + 1), te w3.heap.size t2] := HS4.out
   have hPx9 : Px w W4 [w.heap.size, w.heap.size + 1, w3.heap.size] (.slice y q c) ds [.mk 30 t2.text .nil] [.int .i64 30, .string t2.text, .slice none 0 0] := HRk8.out
   obtain ⟨v9, w9, hr9, hH9, hS9⟩ := hPx9.snoc hSt9 rfl (by simp only [List.length_cons, List.length_nil]; omega) (by simp)
   simp only [List.length_cons, List.length_nil, Nat.zero_add] at hr9
   obtain ⟨y9, n9, c9, rfl⟩ := hH9.form'
   clear hSt9 hPx9 HS4 HRk8
   have HS9 := hide hS9
   have HRk9 := hide hH9
   clear hS9 hH9
   have rr0 := rD HS9
   go_wp2_with (at_builtin; refine wpList_append_run rfl _ _ (by rfl) (by rfl) (by rfl) (by rfl) hr9 ?_)
   clear hr9 p0
   go_wp2_with fail
   refine (next_in (n := l.length) ⟨_, _, _, rfl⟩ (by omega) hlen).mono ?_
   rintro e w11 ⟨⟨j10, rfl, hj10, hl10, hp10⟩, hb11⟩
   have HS11 := hide (HS9.out.call hb11)
   have HRk11 := hide (HRk9.out.call hb11)
   clear HRk9
   clear hb11 HS9
   clear rr0
   have p0 := rD HS11
   go_wp2_with fail
   refine named fun W12 hW12 => ?_
   have HS12 := onS hW12 (HS11.out.st3 0 rfl _ _ _)
   have HRk12 := hide (Px.onto hW12 (HRk11.out.st3 (by simp) _ _ _))
   clear HRk11
   clear hW12 HS11
   clear p0
   refine (op_any ⟨#[59]⟩ (hi.below HS12.out.below)).mono ?_
   rintro e w13 ⟨rfl, hb13⟩
   have HS13 := hide (HS12.out.call hb13)
   have HRk13 := hide (HRk12.out.call hb13)
   clear HRk12
   clear hb13 HS12
   have p0 := rD HS13
   cases hq14 : opB (tokAt l j10 false) ⟨#[59]⟩
   case false =>
    clear hq14
    go_wp2_with fail
    refine (need_any ⟨#[41]⟩ (hi.below HS13.out.below) (by omega)).mono ?_
    rintro e w16 ⟨⟨i15, bad15, rfl, hr15⟩, hb16⟩
    have HS16 := hide (HS13.out.call hb16)
    have HRk16 := hide (HRk13.out.call hb16)
    clear HRk13
    clear hb16 HS13
    clear p0
    obtain ⟨hi15, hl15, hp15, hj15⟩ := hr15.out (by omega)
    have hq15 := hr15.less (by omega)
    clear hr15
    have p0 := rD HS16
    go_wp2_with fail
    refine namedPost fun W17 hW17 => ?_
    have HS17 := onS hW17 (HS16.out.st3 1 rfl _ _ _)
    have HRk17 := hide (Px.onto hW17 (HRk16.out.st3 (by simp) _ _ _))
    clear HRk16
    clear hW17 HS16
    clear p0
    exact ended_ps rfl rfl rfl (HS17.out.get 1 rfl) ⟨⟨_, _, _, _, _, _, rfl, HRk17.out.fewer (by simp), ⟨by omega, by omega, by omega⟩, by rw [cntL_app, cntL_one, cntLeaf]; omega⟩, HS17.out.below⟩
   have hlt18 := (opB_in hq14).2
   clear hq14
   go_wp2_with fail
   refine (next_in (n := l.length) ⟨_, _, _, rfl⟩ (by omega) hlen).mono ?_
   rintro e w20 ⟨⟨j19, rfl, hj19, hl19, hp19⟩, hb20⟩
   have HS20 := hide (HS13.out.call hb20)
   have HRk20 := hide (HRk13.out.call hb20)
   clear HRk13
   clear hb20 HS13
   clear p0
   have p0 := rD HS20
   go_wp2_with fail
   exact ⟨⟨j19, false, _, _, _, _, rfl, (HS20.out.st3 0 rfl _ _ _).cut 2 rfl, (HRk20.out.st3 (by simp) _ _ _).fewer (by simp), by omega, by omega, by omega, by rw [cntL_app, cntL_one, cntLeaf]; omega⟩, by rw [leftAt_of ((HS20.out.st3 0 rfl _ _ _).get 0 rfl), leftAt_of hMp]; omega⟩
  have he21 : (t2.kind == 5) = false := by simpa using hk5
  have hn21 : (t2.kind != 5) = true := by simpa using hk5
  clear hk5
  by_cases hk22 : t2.kind = 3
  ·
   have he23 : (t2.kind == 3) = true := by simpa using hk22
   have hn23 : (t2.kind != 3) = false := by simpa using hk22
   have HK23 := hide hk22
   clear hk22
   obtain ⟨rfl, hlt24⟩ := tokAt_kind (l := l) (i := x) (b := b) (by rw [HT2.out, HK23.out]; decide)
   go_wp2_with fail
   refine (plainName_any _ _ hz2).mono ?_
   rintro e w25 ⟨⟨pb, rfl⟩, hb25⟩
   have HS25 := hide (HS4.out.call hb25)
   have HRk25 := hide (HRk4.out.call hb25)
   clear HRk4
   clear hb25 HS4
   clear p0
   have p0 := rD HS25
   cases pb
   case true =>
    have HRk26 := hide (show Px w w25 [w.heap.size, w.heap.size + 1, w3.heap.size] (.slice y q c) ds [.mk 30 t2.text .nil] [.int .i64 30, .string t2.text, .slice none 0 0] from Px.leaf HRk25.out (by omega) (by simp only [maxLen]; omega))
    clear HRk25
    have lv27 := lV HS25
    have hSt27 : St w w25 [pe w.heap.size a l cap x false, pz (w.heap.size + 1), te w3.heap.size t2] := HS25.out
    have hPx27 : Px w w25 [w.heap.size, w.heap.size + 1, w3.heap.size] (.slice y q c) ds [.mk 30 t2.text .nil] [.int .i64 30, .string t2.text, .slice none 0 0] := HRk26.out
    obtain ⟨v27, w27, hr27, hH27, hS27⟩ := hPx27.snoc hSt27 rfl (by simp only [List.length_cons, List.length_nil]; omega) (by simp)
    simp only [List.length_cons, List.length_nil, Nat.zero_add] at hr27
    obtain ⟨y27, n27, c27, rfl⟩ := hH27.form'
    clear hSt27 hPx27 HS25 HRk26
    have HS27 := hide hS27
    have HRk27 := hide hH27
    clear hS27 hH27
    have rr0 := rD HS27
    go_wp2_with (at_builtin; refine wpList_append_run rfl _ _ (by rfl) (by rfl) (by rfl) (by rfl) hr27 ?_)
    clear hr27 p0
    go_wp2_with fail
    refine (next_in (n := l.length) ⟨_, _, _, rfl⟩ (by omega) hlen).mono ?_
    rintro e w29 ⟨⟨j28, rfl, hj28, hl28, hp28⟩, hb29⟩
    have HS29 := hide (HS27.out.call hb29)
    have HRk29 := hide (HRk27.out.call hb29)
    clear HRk27
    clear hb29 HS27
    clear rr0
    have p0 := rD HS29
    go_wp2_with fail
    refine named fun W30 hW30 => ?_
    have HS30 := onS hW30 (HS29.out.st3 0 rfl _ _ _)
    have HRk30 := hide (Px.onto hW30 (HRk29.out.st3 (by simp) _ _ _))
    clear HRk29
    clear hW30 HS29
    clear p0
    refine (op_any ⟨#[59]⟩ (hi.below HS30.out.below)).mono ?_
    rintro e w31 ⟨rfl, hb31⟩
    have HS31 := hide (HS30.out.call hb31)
    have HRk31 := hide (HRk30.out.call hb31)
    clear HRk30
    clear hb31 HS30
    have p0 := rD HS31
    cases hq32 : opB (tokAt l j28 false) ⟨#[59]⟩
    case false =>
     clear hq32
     go_wp2_with fail
     refine (need_any ⟨#[41]⟩ (hi.below HS31.out.below) (by omega)).mono ?_
     rintro e w34 ⟨⟨i33, bad33, rfl, hr33⟩, hb34⟩
     have HS34 := hide (HS31.out.call hb34)
     have HRk34 := hide (HRk31.out.call hb34)
     clear HRk31
     clear hb34 HS31
     clear p0
     obtain ⟨hi33, hl33, hp33, hj33⟩ := hr33.out (by omega)
     have hq33 := hr33.less (by omega)
     clear hr33
     have p0 := rD HS34
     go_wp2_with fail
     refine namedPost fun W35 hW35 => ?_
     have HS35 := onS hW35 (HS34.out.st3 1 rfl _ _ _)
     have HRk35 := hide (Px.onto hW35 (HRk34.out.st3 (by simp) _ _ _))
     clear HRk34
     clear hW35 HS34
     clear p0
     exact ended_ps rfl rfl rfl (HS35.out.get 1 rfl) ⟨⟨_, _, _, _, _, _, rfl, HRk35.out.fewer (by simp), ⟨by omega, by omega, by omega⟩, by rw [cntL_app, cntL_one, cntLeaf]; omega⟩, HS35.out.below⟩
    have hlt36 := (opB_in hq32).2
    clear hq32
    go_wp2_with fail
    refine (next_in (n := l.length) ⟨_, _, _, rfl⟩ (by omega) hlen).mono ?_
    rintro e w38 ⟨⟨j37, rfl, hj37, hl37, hp37⟩, hb38⟩
    have HS38 := hide (HS31.out.call hb38)
    have HRk38 := hide (HRk31.out.call hb38)
    clear HRk31
    clear hb38 HS31
    clear p0
    have p0 := rD HS38
    go_wp2_with fail
    exact ⟨⟨j37, false, _, _, _, _, rfl, (HS38.out.st3 0 rfl _ _ _).cut 2 rfl, (HRk38.out.st3 (by simp) _ _ _).fewer (by simp), by omega, by omega, by omega, by rw [cntL_app, cntL_one, cntLeaf]; omega⟩, by rw [leftAt_of ((HS38.out.st3 0 rfl _ _ _).get 0 rfl), leftAt_of hMp]; omega⟩
   go_wp2_with fail
   refine (wrong_any _ _ _ _ ⟨_, _, _, rfl⟩).mono ?_
   rintro e w40 ⟨rfl, hb40⟩
   have HS40 := hide (HS25.out.call hb40)
   have HRk40 := hide (HRk25.out.call hb40)
   clear HRk25
   clear hb40 HS25
   clear p0
   have p0 := rD HS40
   go_wp2_with fail
   have hwr39 := left_wrong l.length x false
   refine namedPost fun W41 hW41 => ?_
   have HS41 := onS hW41 (HS40.out.st3 1 rfl _ _ _)
   have HRk41 := hide (Px.onto hW41 (HRk40.out.st3 (by simp) _ _ _))
   clear HRk40
   clear hW41 HS40
   clear p0
   exact ended_ps rfl rfl rfl (HS41.out.get 1 rfl) ⟨⟨_, _, _, _, _, _, rfl, HRk41.out.fewer (by simp), ⟨by omega, by omega, by omega⟩, by omega⟩, HS41.out.below⟩
  have he42 : (t2.kind == 3) = false := by simpa using hk22
  have hn42 : (t2.kind != 3) = true := by simpa using hk22
  clear hk22
  go_wp2_with fail
  refine (wrong_any _ _ _ _ ⟨_, _, _, rfl⟩).mono ?_
  rintro e w44 ⟨rfl, hb44⟩
  have HS44 := hide (HS4.out.call hb44)
  have HRk44 := hide (HRk4.out.call hb44)
  clear HRk4
  clear hb44 HS4
  clear p0
  have p0 := rD HS44
  go_wp2_with fail
  have hwr43 := left_wrong l.length x b
  refine namedPost fun W45 hW45 => ?_
  have HS45 := onS hW45 (HS44.out.st3 1 rfl _ _ _)
  have HRk45 := hide (Px.onto hW45 (HRk44.out.st3 (by simp) _ _ _))
  clear HRk44
  clear hW45 HS44
  clear p0
  exact ended_ps rfl rfl rfl (HS45.out.get 1 rfl) ⟨⟨_, _, _, _, _, _, rfl, HRk45.out.fewer (by simp), ⟨by omega, by omega, by omega⟩, by omega⟩, HS45.out.below⟩
end Go.Proofs.Ytacgmmpdichlmaa
namespace Go.Proofs.Ytacgmmpdichlmaa
open Go.RowKit
attribute [local go_sem ↓] Go.wp_at_zero Go.wp_at_succ

set_option maxRecDepth 4000 in
set_option maxHeartbeats 4000000 in
theorem pipe_k {l : List Tk} {a : Option Addr} {cap m : Nat} (K : Kn l a cap m) (hexp : ∀ ⦃i : Nat⦄ ⦃bad : Bool⦄ ⦃w : World⦄ (x : Nat), Its w a l → i ≤ l.length → leftP l.length i bad ≤ m → Calls Try.prog 77 #[.agg #[.slice a l.length cap, .int .i64 i, .bool bad], .int .i64 x] w (PN l a cap w i bad 2)) {i : Nat} {bad : Bool} {w : World} (hi : Its w a l) (hat : i ≤ l.length) (hm : leftP l.length i bad ≤ m) : Calls Try.prog 56 #[.agg #[.slice a l.length cap, .int .i64 i, .bool bad]] w (PN l a cap w i bad 2) := by
  have HK := hide K
  have hlen := hi.2.1
  clear K
  have Hexp := hide hexp
  clear hexp
  go_enter Try.func56, Try.ntmps56
  go_wp2_with fail
  refine named fun W1 hW1 => ?_
  have HS1 := onS hW1 (St.nil w).va.va.va
  clear hW1
  refine (Hexp.out 1 (hi.below HS1.out.below) (by omega) (by omega)).mono ?_
  rintro e w2 ⟨⟨i2, bad2, d2, k2, s2, y2, m2, c2, rfl, hn2, ⟨hi2, hl2, hp2⟩, hc2⟩, hb2⟩
  have HS2 := hide (HS1.out.call hb2)
  have HNn2 := hide (show Nx w w2 [w.heap.size, w.heap.size + 1, w.heap.size + 1 + 1] _ _ from Nx.made hn2 HS1.out)
  clear hn2 hb2 HS1
  have p0 := rD HS2
  go_wp2_with fail
  have lv3 := lV HS2
  refine namedWp fun W3 hW3 => ?_
  have HS3 := onS hW3 HS2.out.va.va
  have HNn3 := hide (Nx.onto hW3 ((HNn2.out.var (g := w2.heap.size) (by simp) _).var (g := w2.heap.size + 1) (by simp) _))
  clear HNn2
  clear hW3 HS2
  clear p0
  refine rgn HS3.out [3, 4] fun W4 hW4 => ?_
  have HS4 := hide (St.onto hW4 HS3.out.dr)
  have HNn4 := hide (Nx.onto hW4 HNn3.out.dr)
  clear HNn3
  clear hW4 HS3
  refine tK 0 (kS HS4.out [3, 4]) ?_
  refine tK 1 (kS HS4.out [3, 4]) ?_
  refine rY 2 fun K hK => ?_
  have p1 := rG HS4 1
  go_simp
  refine onW hK (kS (HS4.out.st3 1 rfl _ _ _) [3, 4]) fun W5 hW5 => ?_
  clear hK K
  have HS5 := onS hW5 (HS4.out.st3 1 rfl _ _ _)
  have HNn5 := hide (Nx.onto hW5 (HNn4.out.st3 (by simp) _ _ _))
  clear HNn4
  clear hW5 HS4
  clear p1
  refine rY 3 fun K hK => ?_
  have p2 := rG HS5 2
  go_simp
  refine onW hK (kS (HS5.out.st3 2 rfl _ _ _) [3, 4]) fun W6 hW6 => ?_
  clear hK K
  have HS6 := onS hW6 (HS5.out.st3 2 rfl _ _ _)
  have HNn6 := hide (Nx.onto hW6 (HNn5.out.st3 (by simp) _ _ _))
  clear HNn5
  clear hW6 HS5
  clear p2
  refine wpAnyH_done (by kernel_rfl) ?_ _
  go_wp2_with fail
  refine namedPost fun W7 hW7 => ?_
  have HS7 := hide (St.onto hW7 HS6.out)
  have HNn7 := hide (Nx.onto hW7 HNn6.out)
  clear HNn6
  clear hW7 HS6
  exact ended_pn rfl rfl rfl (HS7.out.get 1 rfl) (HS7.out.get 2 rfl) ⟨⟨_, _, _, _, _, _, _, _, rfl, HNn7.out.out, ⟨by omega, by omega, by omega⟩, by omega⟩, HS7.out.below⟩
end Go.Proofs.Ytacgmmpdichlmaa
namespace Go.Proofs.Ytacgmmpdichlmaa
open Go.RowKit
attribute [local go_sem ↓] Go.wp_at_zero Go.wp_at_succ

set_option maxRecDepth 100000 in
set_option maxHeartbeats 4000000 in
theorem deep_any {l : List Tk} {a : Option Addr} {cap : Nat} {w : World} (hi : Its w a l) :
    Calls Try.prog 41 #[.slice a l.length cap] w fun e w' => (∃ r : Int, e = .returned (.int .i64 r) ∧ -1 ≤ r ∧ r < l.length ∧ (l.length ≤ 256 → r = -1)) ∧ Below w.heap.size w w' := by
  have hlen := hi.2.1
  go_enter Try.func41, Try.ntmps41
  go_wp2_with fail
  go_loopw [3, 4] (fun n i wr => ∃ (k nn : Nat), n = .int .i64 nn ∧ i = .int .i64 k ∧ nn ≤ k ∧ nn ≤ 256 ∧ k ≤ l.length ∧ Below w.heap.size w wr) (fun _ i _ => l.length - (intOf i).toNat)
  case atStart => exact ⟨0, 0, rfl, rfl, by omega, by omega, by omega, Below.refl _ _⟩
  case round =>
    obtain ⟨k, nn, rfl, rfl, hk1, hk2, hk3, hb⟩ := hrel
    by_cases hlt : k < l.length
    · obtain ⟨b, o, rfl, hF, h0, h1⟩ := (hi.1).get hlt
      replace h0 := (hb.cell (p := ⟨b, o + k * 4, none⟩) hF).trans h0
      replace h1 := (hb.cell (p := ⟨b, o + k * 4 + 1, none⟩) hF).trans h1
      obtain ⟨t, ht⟩ : ∃ t, t = l[k] := ⟨_, rfl⟩
      rw [← ht] at h0 h1
      clear ht
      have hB1 := fun o => bl_al hb o
      have HB := hide hb
      clear hb
      by_cases h9 : t.kind = 9
      ·
        have e9 : (t.kind == 9) = true := by simpa using h9
        have e10 : (t.kind == 10) = false := by rw [h9]; rfl
        have e13 : (t.kind == 13) = false := by rw [h9]; rfl
        clear h9
        by_cases h256 : nn < 256
        · go_wp2_with fail
          go_roundw
          case rel => exact ⟨k + 1, nn + 1, by go_num, by go_num, by omega, by omega, by omega, hB1 _⟩
          case measure => simp [intOf]; omega
        · obtain rfl : nn = 256 := by omega
          go_wp2_with fail
          go_ret
          exact ⟨⟨_, rfl, by omega, by omega, fun h => by omega⟩, hB1 _⟩
      have e9 : (t.kind == 9) = false := by simpa using h9
      clear h9
      by_cases h10 : t.kind = 10
      ·
        have e10 : (t.kind == 10) = true := by simpa using h10
        have e13 : (t.kind == 13) = false := by rw [h10]; rfl
        clear h10
        go_wp2_with fail
        go_roundw
        case rel => exact ⟨k + 1, nn - 1, by simp; omega, by go_num, by omega, by omega, by omega, hB1 _⟩
        case measure => simp [intOf]; omega
      have e10 : (t.kind == 10) = false := by simpa using h10
      clear h10
      by_cases h13 : t.kind = 13
      ·
        have e13 : (t.kind == 13) = true := by simpa using h13
        clear h13
        cases q0 : (t.text.toList == [40]) with
        | true =>
          by_cases h256 : nn < 256
          · go_wp2_with fail
            go_roundw
            case rel => exact ⟨k + 1, nn + 1, by go_num, by go_num, by omega, by omega, by omega, hB1 _⟩
            case measure => simp [intOf]; omega
          · obtain rfl : nn = 256 := by omega
            go_wp2_with fail
            go_ret
            exact ⟨⟨_, rfl, by omega, by omega, fun h => by omega⟩, hB1 _⟩
        | false =>
          cases q1 : (t.text.toList == [91]) with
          | true =>
            by_cases h256 : nn < 256
            · go_wp2_with fail
              go_roundw
              case rel => exact ⟨k + 1, nn + 1, by go_num, by go_num, by omega, by omega, by omega, hB1 _⟩
              case measure => simp [intOf]; omega
            · obtain rfl : nn = 256 := by omega
              go_wp2_with fail
              go_ret
              exact ⟨⟨_, rfl, by omega, by omega, fun h => by omega⟩, hB1 _⟩
          | false =>
            cases q2 : (t.text.toList == [123]) with
            | true =>
              by_cases h256 : nn < 256
              · go_wp2_with fail
                go_roundw
                case rel => exact ⟨k + 1, nn + 1, by go_num, by go_num, by omega, by omega, by omega, hB1 _⟩
                case measure => simp [intOf]; omega
              · obtain rfl : nn = 256 := by omega
                go_wp2_with fail
                go_ret
                exact ⟨⟨_, rfl, by omega, by omega, fun h => by omega⟩, hB1 _⟩
            | false =>
              cases q3 : (t.text.toList == [41]) with
              | true =>
                go_wp2_with fail
                go_roundw
                case rel => exact ⟨k + 1, nn - 1, by simp; omega, by go_num, by omega, by omega, by omega, hB1 _⟩
                case measure => simp [intOf]; omega
              | false =>
                cases q4 : (t.text.toList == [93]) with
                | true =>
                  go_wp2_with fail
                  go_roundw
                  case rel => exact ⟨k + 1, nn - 1, by simp; omega, by go_num, by omega, by omega, by omega, hB1 _⟩
                  case measure => simp [intOf]; omega
                | false =>
                  cases q5 : (t.text.toList == [125]) with
                  | true =>
                    go_wp2_with fail
                    go_roundw
                    case rel => exact ⟨k + 1, nn - 1, by simp; omega, by go_num, by omega, by omega, by omega, hB1 _⟩
                    case measure => simp [intOf]; omega
                  | false =>
                    go_wp2_with fail
                    go_roundw
                    case rel => exact ⟨k + 1, nn, by go_num, by go_num, by omega, by omega, by omega, hB1 _⟩
                    case measure => simp [intOf]; omega
      have e13 : (t.kind == 13) = false := by simpa using h13
      clear h13
      go_wp2_with fail
      go_roundw
      case rel => exact ⟨k + 1, nn, by go_num, by go_num, by omega, by omega, by omega, hB1 _⟩
      case measure => simp [intOf]; omega
    · go_wp2_with fail
      go_ret
      exact ⟨⟨-1, rfl, by omega, by omega, fun _ => rfl⟩, hb⟩
end Go.Proofs.Ytacgmmpdichlmaa
