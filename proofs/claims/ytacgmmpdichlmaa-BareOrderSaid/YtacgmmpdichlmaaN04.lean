/-
  The reference's One, Check at any text: how many bytes a rune has; where there is none. Its condition: a text has at most 65536 bytes.
  turn, Bare and Same of bare: a tree without its brackets. Its conditions: the value reads as a node, of at most 900000 nodes.
  Same of bare: the program's. Its conditions: the values read as nodes, of at most 900000 nodes each.
  Same of nodes: the reference's. Its conditions: the values read as nodes.
-/
import Derived.Test.YtacgmmpdichlmaaN02
import Derived.Test.YtacgmmpdichlmaaN03
import Derived.BigQuiet
import Derived.Deep.RegionHeld3
namespace Go.Proofs.Ytacgmmpdichlmaa
open Go.RowKit

def moreI (c : Int) : Int := if c < 128 then 0 else if 194 ≤ c ∧ c ≤ 223 then 1 else if 224 ≤ c ∧ c ≤ 239 then 2 else if 240 ≤ c ∧ c ≤ 244 then 3 else -1
theorem ret_int {a b : Int} (h : a = b) : Ending.returned (.int .i64 a) = .returned (.int .i64 b) := by rw [h]
theorem more_x (c : Int) (w : World) : Calls Try.prog 60 #[.int .u8 c] w fun e w' => e = .returned (.int .i64 (moreI c)) ∧ w' = w := by
  go_enter Try.func60, Try.ntmps60
  go_wp2_with fail
  all_goals
    go_ret
    exact ⟨ret_int (by unfold moreI; (repeat' split) <;> omega), rfl⟩
theorem moreI_cases (c : Int) : moreI c = 0 ∨ moreI c = 1 ∨ moreI c = 2 ∨ moreI c = 3 ∨ moreI c = -1 := by
  unfold moreI
  repeat' split
  all_goals omega
set_option maxRecDepth 100000 in
set_option maxHeartbeats 4000000 in
theorem oneRune_any (s : ByteArray) (w : World) (hs : s.size ≤ 65536) (h0 : 0 < s.size) : Calls Try.prog 49 #[.string s] w fun e w' => (∃ n : Nat, e = .returned (.int .i64 n) ∧ n ≤ s.size) ∧ Below w.heap.size w w' := by
  have hne := toList_ne h0
  have hie := isEmpty_no h0
  have hse : ¬ s = ByteArray.empty := by rintro rfl; exact absurd h0 (by decide)
  obtain ⟨c, hc, hc0, hc1⟩ : ∃ c : Nat, s[0].toNat = c ∧ 0 ≤ c ∧ c ≤ 255 := ⟨_, rfl, Nat.zero_le _, by have := s[0].toNat_lt; omega⟩
  obtain ⟨n, hn⟩ : ∃ n, moreI c = n := ⟨_, rfl⟩
  have hcs := moreI_cases c
  rw [hn] at hcs
  have HN := hide hn
  clear hn
  rcases hcs with rfl | rfl | rfl | rfl | rfl
  case inr.inr.inr.inr =>
    go_enter Try.func49, Try.ntmps49
    go_wp2_with fail
    refine (more_x c w).mono ?_
    rintro e w1 ⟨rfl, rfl⟩
    rw [HN.out]
    go_wp2_with fail
    go_ret
    exact ⟨⟨0, rfl, by omega⟩, Below.refl _ _⟩
  case inl =>
    have ha : s[0].toNat < 128 := by
      have h := HN.out
      unfold moreI at h
      split at h
      · omega
      · (repeat' split at h) <;> omega
    exact (one_ascii s w hs h0 ha).mono fun _ _ h => ⟨⟨1, h.1, by omega⟩, h.2⟩
  case inr.inl =>
    by_cases h1 : 1 < s.size
    · have h1i : ¬ ((s.size : Int) ≤ 1) := by omega
      go_enter Try.func49, Try.ntmps49
      go_wp2_with fail
      refine (more_x c w).mono ?_
      rintro e w1 ⟨rfl, rfl⟩
      rw [HN.out]
      go_wp2_with fail
      refine (more_x c w1).mono ?_
      rintro e w2 ⟨rfl, rfl⟩
      rw [HN.out]
      go_wp2_with fail
      refine (more_x c w2).mono ?_
      rintro e w3 ⟨rfl, rfl⟩
      rw [HN.out]
      go_wp2_with fail
      go_loopw [4, 5] (fun z i wr => ∃ k r : Nat, z = .int .i64 r ∧ i = .int .i64 k ∧ ((k = 1 ∧ r < 64) ∨ (k = 2 ∧ r < 4096)) ∧ wr = w3) (fun _ i _ => 5 - (intOf i).toNat)
      case atStart => exact ⟨1, c % 32, by go_num, rfl, Or.inl ⟨rfl, by omega⟩, rfl⟩
      case round =>
        obtain ⟨k, r, rfl, rfl, hkr, rfl⟩ := hrel
        rcases hkr with ⟨rfl, hr⟩ | ⟨rfl, hr⟩
        · have hj : (1 : Int) < (s.size : Int) := by omega
          obtain ⟨x, hx, hx1⟩ : ∃ x : Nat, s[1].toNat = x ∧ x ≤ 255 := ⟨_, rfl, by have := s[1].toNat_lt; omega⟩
          go_wp2_with fail
          all_goals first
            | (go_ret; exact ⟨⟨0, rfl, by omega⟩, Below.refl _ _⟩)
            | (go_roundw
               case rel => exact ⟨2, 64 * r + x % 64, by go_num, rfl, Or.inr (⟨rfl, by omega⟩), trivial⟩
               case measure => simp [intOf])
        · go_wp2_with fail
          all_goals first
            | (go_ret; exact ⟨⟨0, rfl, by omega⟩, (Below.refl _ _).alloc (Nat.le_refl _) _⟩)
            | (go_ret; exact ⟨⟨2, rfl, by omega⟩, (Below.refl _ _).alloc (Nat.le_refl _) _⟩)
    · have h1i : ((s.size : Int) ≤ 1) := by omega
      go_enter Try.func49, Try.ntmps49
      go_wp2_with fail
      refine (more_x c w).mono ?_
      rintro e w1 ⟨rfl, rfl⟩
      rw [HN.out]
      go_wp2_with fail
      refine (more_x c w1).mono ?_
      rintro e w2 ⟨rfl, rfl⟩
      rw [HN.out]
      go_wp2_with fail
      go_ret
      exact ⟨⟨0, rfl, by omega⟩, Below.refl _ _⟩
  case inr.inr.inl =>
    by_cases h1 : 2 < s.size
    · have h1i : ¬ ((s.size : Int) ≤ 2) := by omega
      go_enter Try.func49, Try.ntmps49
      go_wp2_with fail
      refine (more_x c w).mono ?_
      rintro e w1 ⟨rfl, rfl⟩
      rw [HN.out]
      go_wp2_with fail
      refine (more_x c w1).mono ?_
      rintro e w2 ⟨rfl, rfl⟩
      rw [HN.out]
      go_wp2_with fail
      refine (more_x c w2).mono ?_
      rintro e w3 ⟨rfl, rfl⟩
      rw [HN.out]
      go_wp2_with fail
      go_loopw [4, 5] (fun z i wr => ∃ k r : Nat, z = .int .i64 r ∧ i = .int .i64 k ∧ ((k = 1 ∧ r < 64) ∨ (k = 2 ∧ r < 4096) ∨ (k = 3 ∧ r < 262144)) ∧ wr = w3) (fun _ i _ => 5 - (intOf i).toNat)
      case atStart => exact ⟨1, c % 16, by go_num, rfl, Or.inl ⟨rfl, by omega⟩, rfl⟩
      case round =>
        obtain ⟨k, r, rfl, rfl, hkr, rfl⟩ := hrel
        rcases hkr with ⟨rfl, hr⟩ | ⟨rfl, hr⟩ | ⟨rfl, hr⟩
        · have hj : (1 : Int) < (s.size : Int) := by omega
          obtain ⟨x, hx, hx1⟩ : ∃ x : Nat, s[1].toNat = x ∧ x ≤ 255 := ⟨_, rfl, by have := s[1].toNat_lt; omega⟩
          go_wp2_with fail
          all_goals first
            | (go_ret; exact ⟨⟨0, rfl, by omega⟩, Below.refl _ _⟩)
            | (go_roundw
               case rel => exact ⟨2, 64 * r + x % 64, by go_num, rfl, Or.inr (Or.inl ⟨rfl, by omega⟩), trivial⟩
               case measure => simp [intOf])
        · have hj : (2 : Int) < (s.size : Int) := by omega
          obtain ⟨x, hx, hx1⟩ : ∃ x : Nat, s[2].toNat = x ∧ x ≤ 255 := ⟨_, rfl, by have := s[2].toNat_lt; omega⟩
          go_wp2_with fail
          all_goals first
            | (go_ret; exact ⟨⟨0, rfl, by omega⟩, Below.refl _ _⟩)
            | (go_roundw
               case rel => exact ⟨3, 64 * r + x % 64, by go_num, rfl, Or.inr (Or.inr (⟨rfl, by omega⟩)), trivial⟩
               case measure => simp [intOf])
        · go_wp2_with fail
          all_goals first
            | (go_ret; exact ⟨⟨0, rfl, by omega⟩, (Below.refl _ _).alloc (Nat.le_refl _) _⟩)
            | (go_ret; exact ⟨⟨3, rfl, by omega⟩, (Below.refl _ _).alloc (Nat.le_refl _) _⟩)
    · have h1i : ((s.size : Int) ≤ 2) := by omega
      go_enter Try.func49, Try.ntmps49
      go_wp2_with fail
      refine (more_x c w).mono ?_
      rintro e w1 ⟨rfl, rfl⟩
      rw [HN.out]
      go_wp2_with fail
      refine (more_x c w1).mono ?_
      rintro e w2 ⟨rfl, rfl⟩
      rw [HN.out]
      go_wp2_with fail
      go_ret
      exact ⟨⟨0, rfl, by omega⟩, Below.refl _ _⟩
  case inr.inr.inr.inl =>
    by_cases h1 : 3 < s.size
    · have h1i : ¬ ((s.size : Int) ≤ 3) := by omega
      go_enter Try.func49, Try.ntmps49
      go_wp2_with fail
      refine (more_x c w).mono ?_
      rintro e w1 ⟨rfl, rfl⟩
      rw [HN.out]
      go_wp2_with fail
      refine (more_x c w1).mono ?_
      rintro e w2 ⟨rfl, rfl⟩
      rw [HN.out]
      go_wp2_with fail
      refine (more_x c w2).mono ?_
      rintro e w3 ⟨rfl, rfl⟩
      rw [HN.out]
      go_wp2_with fail
      go_loopw [4, 5] (fun z i wr => ∃ k r : Nat, z = .int .i64 r ∧ i = .int .i64 k ∧ ((k = 1 ∧ r < 64) ∨ (k = 2 ∧ r < 4096) ∨ (k = 3 ∧ r < 262144) ∨ (k = 4 ∧ r < 16777216)) ∧ wr = w3) (fun _ i _ => 5 - (intOf i).toNat)
      case atStart => exact ⟨1, c % 8, by go_num, rfl, Or.inl ⟨rfl, by omega⟩, rfl⟩
      case round =>
        obtain ⟨k, r, rfl, rfl, hkr, rfl⟩ := hrel
        rcases hkr with ⟨rfl, hr⟩ | ⟨rfl, hr⟩ | ⟨rfl, hr⟩ | ⟨rfl, hr⟩
        · have hj : (1 : Int) < (s.size : Int) := by omega
          obtain ⟨x, hx, hx1⟩ : ∃ x : Nat, s[1].toNat = x ∧ x ≤ 255 := ⟨_, rfl, by have := s[1].toNat_lt; omega⟩
          go_wp2_with fail
          all_goals first
            | (go_ret; exact ⟨⟨0, rfl, by omega⟩, Below.refl _ _⟩)
            | (go_roundw
               case rel => exact ⟨2, 64 * r + x % 64, by go_num, rfl, Or.inr (Or.inl ⟨rfl, by omega⟩), trivial⟩
               case measure => simp [intOf])
        · have hj : (2 : Int) < (s.size : Int) := by omega
          obtain ⟨x, hx, hx1⟩ : ∃ x : Nat, s[2].toNat = x ∧ x ≤ 255 := ⟨_, rfl, by have := s[2].toNat_lt; omega⟩
          go_wp2_with fail
          all_goals first
            | (go_ret; exact ⟨⟨0, rfl, by omega⟩, Below.refl _ _⟩)
            | (go_roundw
               case rel => exact ⟨3, 64 * r + x % 64, by go_num, rfl, Or.inr (Or.inr (Or.inl ⟨rfl, by omega⟩)), trivial⟩
               case measure => simp [intOf])
        · have hj : (3 : Int) < (s.size : Int) := by omega
          obtain ⟨x, hx, hx1⟩ : ∃ x : Nat, s[3].toNat = x ∧ x ≤ 255 := ⟨_, rfl, by have := s[3].toNat_lt; omega⟩
          go_wp2_with fail
          all_goals first
            | (go_ret; exact ⟨⟨0, rfl, by omega⟩, Below.refl _ _⟩)
            | (go_roundw
               case rel => exact ⟨4, 64 * r + x % 64, by go_num, rfl, Or.inr (Or.inr (Or.inr (⟨rfl, by omega⟩))), trivial⟩
               case measure => simp [intOf])
        · go_wp2_with fail
          all_goals first
            | (go_ret; exact ⟨⟨0, rfl, by omega⟩, (Below.refl _ _).alloc (Nat.le_refl _) _⟩)
            | (go_ret; exact ⟨⟨4, rfl, by omega⟩, (Below.refl _ _).alloc (Nat.le_refl _) _⟩)
    · have h1i : ((s.size : Int) ≤ 3) := by omega
      go_enter Try.func49, Try.ntmps49
      go_wp2_with fail
      refine (more_x c w).mono ?_
      rintro e w1 ⟨rfl, rfl⟩
      rw [HN.out]
      go_wp2_with fail
      refine (more_x c w1).mono ?_
      rintro e w2 ⟨rfl, rfl⟩
      rw [HN.out]
      go_wp2_with fail
      go_ret
      exact ⟨⟨0, rfl, by omega⟩, Below.refl _ _⟩
set_option maxHeartbeats 1000000 in
theorem check_any (s : ByteArray) (w : World) (hs : s.size ≤ 65536) : Calls Try.prog 37 #[.string s] w fun e w' => (∃ n : Int, e = .returned (.int .i64 n) ∧ -1 ≤ n ∧ n ≤ s.size) ∧ Below w.heap.size w w' := by
  go_enter Try.func37, Try.ntmps37
  go_wp2_with fail
  go_loopw [3] (fun n wr => ∃ k : Nat, n = .int .i64 k ∧ k ≤ s.size ∧ Below w.heap.size w wr) (fun n _ => s.size - (intOf n).toNat)
  case atStart => exact ⟨0, rfl, Nat.zero_le _, Below.refl _ _⟩
  case round =>
    obtain ⟨k, rfl, hk, hb⟩ := hrel
    by_cases hlt : k < s.size
    · have hlti : (k : Int) < (s.size : Int) := by omega
      have hx : 0 < (s.extract k s.size).size := by rw [ByteArray.size_extract]; omega
      have HC := hide (oneRune_any (s.extract k s.size) wr (by simp only [ByteArray.size_extract]; omega) hx)
      clear hx
      go_wp2_with fail
      refine HC.out.mono ?_
      rintro e w1 ⟨⟨n, rfl, hn⟩, hb1⟩
      have hb2 : Below w.heap.size w w1 := hb.trans (hb1.mono hb.size)
      rw [ByteArray.size_extract] at hn
      by_cases hn0 : n = 0
      · subst hn0
        go_wp2_with fail
        go_ret
        exact ⟨⟨_, rfl, by omega, by omega⟩, hb2⟩
      · have hnb : ((n : Int) == 0) = false := by simp; omega
        go_wp2_with fail
        go_roundw
        case rel => exact ⟨k + n, by go_num, by omega, hb2⟩
        case measure => simp [intOf]; omega
    · have hlti : ¬ (k : Int) < (s.size : Int) := by omega
      go_wp2_with fail
      go_ret
      exact ⟨⟨-1, rfl, by omega, by omega⟩, hb⟩
end Go.Proofs.Ytacgmmpdichlmaa
namespace Go.Proofs.Ytacgmmpdichlmaa
open Go.RowKit
attribute [local go_sem ↓] Go.wp_at_zero Go.wp_at_succ

/-- A bracket is opened. -/
def openN : Nd → Nd
  | .mk k s ks => bareOf k s ks
theorem bareN_open (k : Int) (s : ByteArray) (ks : Nds) : bareN (.mk k s ks) = openN (Nd.of k s (ks.toL.map bareN)) := by
  rw [Nd.of, openN, bareN, ← bareNs_toL, Nds.ofL_toL]
theorem open_no {d : Nd} (h : d.br = false) : openN d = d := by
  obtain ⟨k, s, ks⟩ := d
  rw [openN, bareOf_no h]
theorem open_yes {d : Nd} (h : d.br = true) : ∃ h : 0 < d.kids.length, openN d = d.kids[0] := by
  obtain ⟨k, s, ks⟩ := d
  obtain ⟨rfl, x, rfl⟩ := isBr_of h
  exact ⟨by simp [Nd.kids, Nds.toL], by rw [openN, bareOf, if_pos rfl]; rfl⟩
/-- The function that opens. -/
theorem open_any {F : Nat → Prop} {d : Nd} {k : Int} {s : ByteArray} {y : Option Addr} {m c : Nat} {w : World} (hF : ∀ b, F b → b < w.heap.size) (hD : IsNd w F d (.agg #[.int .i64 k, .string s, .slice y m c])) :
    Calls Try.prog 33 #[.agg #[.int .i64 k, .string s, .slice y m c]] w fun e w' => ∃ (k' : Int) (s' : ByteArray) (y' : Option Addr) (m' c' : Nat), e = .returned (.agg #[.int .i64 k', .string s', .slice y' m' c']) ∧ IsNd w F (openN d) (.agg #[.int .i64 k', .string s', .slice y' m' c']) ∧ Below w.heap.size w w' := by
  obtain ⟨hm, hml, hsl, -, -⟩ := hD.out
  simp only [maxLen] at hml
  rw [← hm] at hml
  have HD := hide hD
  obtain ⟨W, hW⟩ : ∃ W, (w.alloc (.cells #[.int .i64 k, .string s, .slice y m c] 25)).alloc (.cells #[.int .i64 0, .string ⟨#[]⟩, .slice none 0 0] 25) = W := ⟨_, rfl⟩
  have HS := hide (show St w W [ne w.heap.size k s y m c, nz (w.heap.size + 1)] from St.onto hW.symm (((St.nil w).var 25 _ (by simp)).var 25 _ (by simp)))
  have HC := hide (bracketB_any (w := W) (F := F) (IsNd.keep (fun b hb => ⟨hb, HS.out.below.block b (hF b hb)⟩) _ _ hD))
  clear hD
  cases hbr : d.br
  case false =>
   rw [hbr] at HC
   rw [open_no hbr]
   have p0 := (HS.out.get 0 rfl).see3
   have p1 := (HS.out.get 1 rfl).see3
   clear hsl hm
   go_enter Try.func33, Try.ntmps33
   go_wp2_with fail
   refine HC.out.mono ?_
   rintro e w1 ⟨rfl, hb1⟩
   have HS1 := hide (HS.out.call hb1)
   have q0 := (HS1.out.get 0 rfl).see3
   have q1 := (HS1.out.get 1 rfl).see3
   clear p0 p1 hW hb1
   go_wp2_with fail
   exact ended_n rfl rfl ((HS1.out.st3 1 rfl _ _ _).get 1 rfl) ⟨_, _, _, _, _, rfl, HD.out, (HS1.out.st3 1 rfl _ _ _).below⟩
  rw [hbr] at HC
  obtain ⟨hpos, ho⟩ := open_yes hbr
  rw [ho]
  obtain ⟨b, o, cap2, k1, s1, y1, m1, e1, hv, hFb, g0, g1, g2, hc⟩ := hsl.kid hpos
  rw [← hm] at hv
  cases hv
  have HK := hide hc
  have hmp : 0 < m := by omega
  have p0 := (HS.out.get 0 rfl).see3
  have p1 := (HS.out.get 1 rfl).see3
  clear hsl hm hc
  go_enter Try.func33, Try.ntmps33
  go_wp2_with fail
  refine HC.out.mono ?_
  rintro e w1 ⟨rfl, hb1⟩
  have HS1 := hide (HS.out.call hb1)
  have q0 := (HS1.out.get 0 rfl).see3
  have q1 := (HS1.out.get 1 rfl).see3
  simp only [Nat.zero_mul, Nat.add_zero] at g0 g1 g2
  replace g0 := (Below.cell HS1.out.below (p := ⟨b, o, none⟩) (hF b hFb)).trans g0
  replace g1 := (Below.cell HS1.out.below (p := ⟨b, o + 1, none⟩) (hF b hFb)).trans g1
  replace g2 := (Below.cell HS1.out.below (p := ⟨b, o + 2, none⟩) (hF b hFb)).trans g2
  clear p0 p1 hW hb1
  go_wp2_with fail
  exact ended_n rfl rfl ((HS1.out.st3 1 rfl _ _ _).get 1 rfl) ⟨_, _, _, _, _, rfl, HK.out, (HS1.out.st3 1 rfl _ _ _).below⟩
def TurnOk (d : Nd) : Prop := ∀ (v : Value) (w : World), Is w d v → d.count ≤ 900000 → Calls Try.prog 32 #[v, .func (.func 33) #[] #[]] w (NdNew w (bareN d))
set_option maxRecDepth 100000 in
set_option maxHeartbeats 4000000 in
theorem turn_any (d : Nd) : TurnOk d := by
  refine Nd.ind_ (P := TurnOk) ?_ d
  intro k s ks IH v w hD hcnt
  rw [bareN_open]
  obtain ⟨x, rfl, hk, hs, hsl⟩ := hD.split
  have HSL := hide hsl
  have HIH := hide IH
  obtain ⟨a1, c1, rfl, hm1, -⟩ := hsl
  simp only [maxLen] at hm1
  rw [count_mk] at hcnt
  have hlc := len_count ks
  have HCM := hide (fun d h => Nat.le_trans (count_mem (ks := ks) (d := d) h) (show ks.count ≤ 900000 by omega))
  clear hD IH
  obtain ⟨ds, hds⟩ : ∃ ds, ks.toL = ds := ⟨_, rfl⟩
  rw [hds] at HSL HIH HCM hm1 hlc ⊢
  clear hds
  go_enter Try.func32, Try.ntmps32
  go_wp2_with fail
  refine namedWp fun W1 hW1 => ?_
  have HS1 := onS hW1 (St.nil w).va.va
  clear hW1
  go_loopw [5, 11] (fun lv i wr => ∃ (q : Nat) (y : Option Addr) (c : Nat), lv = .slice y q c ∧ q ≤ ds.length ∧ i = .int .i64 q ∧ St w wr [ne w.heap.size k s a1 ds.length c1, nz (w.heap.size + 1)] ∧ Hx w wr [w.heap.size, w.heap.size + 1] (.slice y q c) ((ds.map bareN).take q)) (fun _ i _ => ds.length - (intOf i).toNat)
  case atStart => exact ⟨0, none, 0, rfl, Nat.zero_le _, rfl, HS1.out, Hx.nil _ _ _⟩
  obtain ⟨q, y, c, rfl, hq, rfl, hS, hH⟩ := hrel
  have HSr := hide hS
  have HRk := hide hH
  clear hS hH HS1
  by_cases hlt : q < ds.length
  ·
   have hlti : (q : Int) < (ds.length : Int) := by omega
   obtain ⟨b, o, cap2, k1, s1, y1, m1, e1, hv, hFb, g0, g1, g2, hc⟩ := HSL.out.kid hlt
   cases hv
   have HC := hide hc
   clear hc
   replace g0 := (Below.cell HSr.out.below (p := ⟨b, o + q * 3, none⟩) hFb).trans g0
   replace g1 := (Below.cell HSr.out.below (p := ⟨b, o + q * 3 + 1, none⟩) hFb).trans g1
   replace g2 := (Below.cell HSr.out.below (p := ⟨b, o + q * 3 + 2, none⟩) hFb).trans g2
   have p0 := rD HSr
   go_wp2_with fail
   have lv2 := lV HSr
   refine named fun W2 hW2 => ?_
   have HS2 := onS hW2 HSr.out.va
   have HRl2 := hide (Px.onto hW2 (HRk.out.var (g := wr.heap.size) (by simp) _))
   clear HRk
   clear hW2 HSr
   clear p0
   have hI1 : Is W2 ds[q] _ := HC.out.below (HS2.out.below) HS2.out.below.size
   refine (HIH.out ds[q] (List.getElem_mem hlt) _ _ hI1 (HCM.out _ (List.getElem_mem hlt))).mono ?_
   rintro e w3 ⟨k3, s3, y3, m3, c3, rfl, hn3, hb3⟩
   have HS3 := hide (HS2.out.call hb3)
   have HRl3 := hide (Px.made HRl2.out hn3 hb3 HS2.out rfl)
   clear HRl2
   clear hn3 hb3 HS2
   have p0 := rD HS3
   clear hI1 g0 g1 g2
   have lv4 := lV HS3
   have hSt4 : St w w3 [ne w.heap.size k s (some ⟨b, o, none⟩) ds.length c1, nz (w.heap.size + 1), ne wr.heap.size k1 s1 y1 m1 e1] := HS3.out
   have hPx4 : Px w w3 [w.heap.size, w.heap.size + 1, wr.heap.size] (.slice y q c) ((ds.map bareN).take q) [(bareN ds[q])] [.int .i64 k3, .string s3, .slice y3 m3 c3] := HRl3.out
   obtain ⟨v4, w4, hr4, hH4, hS4⟩ := hPx4.snoc hSt4 rfl (by rw [List.length_take]; simp; omega) (by simp)
   simp only [List.length_cons, List.length_nil, Nat.zero_add] at hr4
   obtain ⟨y4, n4, c4, rfl⟩ := hH4.form'
   clear hSt4 hPx4 HS3 HRl3
   have HS4 := hide hS4
   have HRl4 := hide hH4
   clear hS4 hH4
   have rr0 := rD HS4
   go_wp2_with (at_builtin; refine wpList_append_run rfl _ _ (by rfl) (by rfl) (by rfl) (by rfl) hr4 ?_)
   clear hr4 p0
   have hltm : q < (ds.map bareN).length := by rw [List.length_map]; exact hlt
   have hbq : bareN ds[q] = (ds.map bareN)[q] := by rw [List.getElem_map]
   have hHq := HRl4.out
   rw [hbq] at hHq
   exact ⟨⟨q + 1, y4, c4, rowlen_eq hltm hHq, by omega, by go_num, HS4.out.cut 2 rfl, rowof hltm (hHq.fewer (by simp))⟩, by simp [intOf]; omega⟩
  have p0 := rD HSr
  have hlti : ¬ (q : Int) < (ds.length : Int) := by omega
  obtain rfl : q = ds.length := by omega
  go_wp2_with fail
  refine named fun W5 hW5 => ?_
  have HS5 := onS hW5 (HSr.out.st 0 rfl 2 _)
  have HRl5 := hide (Px.onto hW5 (HRk.out.st (by simp) _ _))
  clear HRk
  clear hW5 HSr
  clear p0
  have hN := Px.node (k := k) (s := s) HRl5.out hk hs
  rw [show (ds.map bareN).take ds.length = ds.map bareN by rw [List.take_of_length_le (by rw [List.length_map]; omega)]] at hN
  refine (open_any (F := Nf w W5 [w.heap.size, w.heap.size + 1]) (fun b hb => hb.2.1) hN).mono ?_
  rintro e w9 ⟨k9, s9, y9, m9, c9, rfl, hn9, hb9⟩
  have HS9 := hide (HS5.out.call hb9)
  have HN9 := hide (Nx.call hn9 hb9)
  clear hN hn9 hb9 HS5
  have r0 := (HS9.out.get 0 rfl).see3
  have r1 := (HS9.out.get 1 rfl).see3
  go_wp2_with fail
  exact ended_n rfl rfl ((HS9.out.st3 1 rfl _ _ _).get 1 rfl) ⟨_, _, _, _, _, rfl, (Nx.st3 HN9.out (by simp) _ _ _).out, (HS9.out.st3 1 rfl _ _ _).below⟩

set_option maxHeartbeats 4000000 in
theorem bare_any {d : Nd} {v : Value} {w : World} (hD : Is w d v) (hcnt : d.count ≤ 900000) : Calls Try.prog 19 #[v] w (NdNew w (bareN d)) := by
  obtain ⟨k, s, y, m, c, rfl⟩ := hD.form
  obtain ⟨W, hW⟩ : ∃ W, (w.alloc (.cells #[.int .i64 k, .string s, .slice y m c] 25)).alloc (.cells #[.int .i64 0, .string ⟨#[]⟩, .slice none 0 0] 25) = W := ⟨_, rfl⟩
  have HS := hide (show St w W [ne w.heap.size k s y m c, nz (w.heap.size + 1)] from St.onto hW.symm (((St.nil w).var 25 _ (by simp)).var 25 _ (by simp)))
  have HC := hide (turn_any d _ W (hD.below HS.out.below) hcnt)
  have p0 := (HS.out.get 0 rfl).see3
  have p1 := (HS.out.get 1 rfl).see3
  clear hD
  go_enter Try.func19, Try.ntmps19
  go_wp2_with fail
  refine HC.out.mono ?_
  rintro e w1 ⟨k1, s1, y1, m1, c1, rfl, hn1, hb1⟩
  have HS1 := hide (HS.out.call hb1)
  have q0 := (HS1.out.get 0 rfl).see3
  have q1 := (HS1.out.get 1 rfl).see3
  have HN := hide (show Nx w w1 [w.heap.size, w.heap.size + 1] (bareN d) _ from Nx.made hn1 HS.out)
  clear p0 p1 hW hb1 hn1
  go_wp2_with fail
  exact ended_n rfl rfl ((HS1.out.st3 1 rfl _ _ _).get 1 rfl) ⟨_, _, _, _, _, rfl, (HN.out.st3 (by simp) _ _ _).out, (HS1.out.st3 1 rfl _ _ _).below⟩
end Go.Proofs.Ytacgmmpdichlmaa
namespace Go.Proofs.Ytacgmmpdichlmaa
open Go.RowKit
attribute [local go_sem ↓] Go.wp_at_zero Go.wp_at_succ

theorem IsNd.below_ {w w' : World} {B : Nat} {d : Nd} {v : Value} (h : IsNd w' (New B w') d v) (_ : Below w.heap.size w w') : Is w' d v := IsNd.keep (fun _ hb => ⟨hb.2, rfl⟩) _ _ h
theorem see6_ {W : World} {g g' : Nat} {t t' : TypeId} {a b c a' b' c' : Value} (h : Blk W g t #[a, b, c]) (h' : Blk W g' t' #[a', b', c']) : (W.cell? ⟨g, 0, none⟩ = some a) ∧ (W.cell? ⟨g, 1, none⟩ = some b) ∧ (W.cell? ⟨g, 2, none⟩ = some c) ∧ (W.cell? ⟨g', 0, none⟩ = some a') ∧ (W.cell? ⟨g', 1, none⟩ = some b') ∧ (W.cell? ⟨g', 2, none⟩ = some c') := ⟨h.cell 0, h.cell 1, h.cell 2, h'.cell 0, h'.cell 1, h'.cell 2⟩
set_option maxRecDepth 100000 in
set_option maxHeartbeats 4000000 in
theorem bareSame_any {d d' : Nd} {v v' : Value} {w : World} (hD : Is w d v) (hE : Is w d' v') (h1 : d.count ≤ 900000) (h2 : d'.count ≤ 900000) : Calls Try.prog 20 #[v, v'] w (Says (sameN (bareN d) (bareN d')) w) := by
  obtain ⟨k, s, y, m, c, rfl⟩ := hD.form
  obtain ⟨k', s', y', m', c', rfl⟩ := hE.form
  have HD := hide hD
  have HE := hide hE
  clear hD hE
  go_enter Try.func20, Try.ntmps20
  go_wp2_with fail
  refine namedWp fun W hW => ?_
  have HS := hide (show St w W [ne w.heap.size k s y m c, ne (w.heap.size + 1) k' s' y' m' c'] from St.onto hW (((St.nil w).var 25 _ (by simp)).var 25 _ (by simp)))
  clear hW
  refine wp_region_held_drew (S := fun w' => (w'.cell? ⟨w.heap.size, 0, none⟩ = some (.int .i64 k)) ∧ (w'.cell? ⟨w.heap.size, 1, none⟩ = some (.string s)) ∧ (w'.cell? ⟨w.heap.size, 2, none⟩ = some (.slice y m c)) ∧ (w'.cell? ⟨w.heap.size + 1, 0, none⟩ = some (.int .i64 k')) ∧ (w'.cell? ⟨w.heap.size + 1, 1, none⟩ = some (.string s')) ∧ (w'.cell? ⟨w.heap.size + 1, 2, none⟩ = some (.slice y' m' c'))) (by kernel_rfl) ?_ (fun hHeld => ?_)
  · exact see6_ (HS.out.get 0 rfl) (HS.out.get 1 rfl)
  refine namedAny fun W3 hW3 => ?_
  have HS3 := hide (St.onto hW3 HS.out.dr)
  clear hW3 HS
  have hSn := see6_ (HS3.out.get 0 rfl) (HS3.out.get 1 rfl)
  have HD3 := hide (HD.out.below HS3.out.below)
  have HE3 := hide (HE.out.below HS3.out.below)
  clear hHeld
  refine takeH (i := 0) (v := ?_) rfl (by kernel_rfl) (by kernel_rfl) (by kernel_rfl) (fun _ _ _ h => h) (by rfl) (by assumption) (fun w hSw => ?_) ?_; rotate_left
  · (try dsimp only at hSw); (try go_split_ands); go_simp; all_goals with_reducible rfl
  try simp only [Act.put, List.getElem_toArray, List.getElem_cons_zero, List.setIfInBounds_toArray, List.set_cons_zero, List.set_cons_succ]
  refine takeH (i := 2) (v := ?_) rfl (by kernel_rfl) (by kernel_rfl) (by kernel_rfl) (fun _ _ _ h => h) (by rfl) (by assumption) (fun w hSw => ?_) ?_; rotate_left
  · (try dsimp only at hSw); (try go_split_ands); go_simp; all_goals with_reducible rfl
  try simp only [Act.put, List.getElem_toArray, List.getElem_cons_zero, List.getElem_cons_succ, List.setIfInBounds_toArray, List.set_cons_zero, List.set_cons_succ]
  clear hSn
  refine wpAnyH_ready (rs := [1]) (by kernel_rfl) (by simp) ?_
  refine AllReadyH.cons rfl (fun K hK => ?_) AllReadyH.nil
  ·
    go_simp
    refine (bare_any (w := W3) (HD3.out) h1).mono ?_
    rintro e w4 ⟨k1, s1, y1, m1, c1, rfl, hn4, hb4⟩
    have HN1 := hide (hn4.below_ hb4)
    have HS4 := hide (HS3.out.call hb4)
    have HE4 := hide (HE3.out.below hb4)
    have hB4 := HS4.out.below
    clear hn4
    go_simp
    refine hK.out _ _ ?_ (fun hHeld => ?_)
    · exact see6_ (HS4.out.get 0 rfl) (HS4.out.get 1 rfl)
    clear hK K
    refine wpAnyH_ready (rs := [3]) (by kernel_rfl) (by simp) ?_
    refine AllReadyH.cons rfl (fun K hK => ?_) AllReadyH.nil
    go_simp
    refine (bare_any (w := w4) (HE4.out) h2).mono ?_
    rintro e w5 ⟨k2, s2, y2, m2, c2, rfl, hn5, hb5⟩
    have HN3 := hide (hn5.below_ hb5)
    have HN1' := hide (Is.below HN1.out hb5)
    have HS5 := hide (HS4.out.call hb5)
    clear hn5
    go_simp
    refine hK.out _ _ ?_ (fun hHeld => ?_)
    · exact see6_ (HS5.out.get 0 rfl) (HS5.out.get 1 rfl)
    clear hK K
    refine wpAnyH_ready (rs := [4]) (by kernel_rfl) (by simp) ?_
    refine AllReadyH.cons rfl (fun K hK => ?_) AllReadyH.nil
    go_simp
    refine (same_any (bareN d) (bareN d') _ _ w5 HN1'.out HN3.out).mono ?_
    rintro e w6 ⟨rfl, hb6⟩
    have HS6 := hide (HS5.out.call hb6)
    go_simp
    refine hK.out _ _ ?_ (fun hHeld => ?_)
    · exact see6_ (HS6.out.get 0 rfl) (HS6.out.get 1 rfl)
    clear hK K
    refine wpAnyH_ready (rs := [5]) (by kernel_rfl) (by simp) ?_
    refine AllReadyH.cons rfl (fun K hK => ?_) AllReadyH.nil
    go_simp
    refine hK.out _ _ ?_ (fun hHeld => ?_)
    · exact see6_ (HS6.out.get 0 rfl) (HS6.out.get 1 rfl)
    clear hK K
    refine wpAnyH_done (by kernel_rfl) ?_ _
    go_wp2_with fail
    go_ret
    exact ⟨rfl, HS6.out.below⟩
end Go.Proofs.Ytacgmmpdichlmaa
namespace Go.Proofs.Ytacgmmpdichlmaa
open Go.RowKit
attribute [local go_sem ↓] Go.wp_at_zero Go.wp_at_succ

def RefSameOk (d : Nd) : Prop := ∀ (d' : Nd) (v v' : Value) (w : World), Is w d v → Is w d' v' → Calls Try.prog 18 #[v, v'] w (Says (sameN d d') w)
set_option maxRecDepth 100000 in
set_option maxHeartbeats 4000000 in
theorem refSame_any (d : Nd) : RefSameOk d := by
  refine Nd.ind_ (P := RefSameOk) ?_ d
  intro k s ks IH d' v v' w hD hE
  obtain ⟨k', s', ks'⟩ := d'
  obtain ⟨x, rfl, hk, hs, hsl⟩ := hD.split
  obtain ⟨x', rfl, hk', hs', hsl'⟩ := hE.split
  have HSL := hide hsl
  have HSL' := hide hsl'
  have HIH := hide IH
  obtain ⟨a1, c1, rfl, hm1, -⟩ := hsl
  obtain ⟨a2, c2, rfl, hm2, -⟩ := hsl'
  simp only [maxLen] at hm1 hm2
  clear hD hE hs hs' IH
  unfold Says
  rw [show sameN (.mk k s ks) (.mk k' s' ks') = (decide (k = k') && decide (s = s') && sameL ks.toL ks'.toL) by rw [sameN, sameNs_L]]
  obtain ⟨ds, hds⟩ : ∃ ds, ks.toL = ds := ⟨_, rfl⟩
  obtain ⟨es, hes⟩ : ∃ es, ks'.toL = es := ⟨_, rfl⟩
  rw [hds] at HSL HIH hm1 ⊢
  rw [hes] at HSL' hm2 ⊢
  clear hds hes
  by_cases h1 : k = k'
  ·
   subst h1
   simp only [decide_true, Bool.true_and]
   by_cases h2 : s = s'
   ·
    subst h2
    simp only [decide_true, Bool.true_and]
    by_cases h3 : ds.length = es.length
    ·
     have HN := hide h3.symm
     rw [← h3] at hm2 HSL' ⊢
     have e0 : ((ds.length : Int) != (ds.length : Int)) = false := by simp
     clear h3
     go_enter Try.func18, Try.ntmps18
     go_wp2_with fail
     refine namedWp fun W1 hW1 => ?_
     have HS1 := onS hW1 (St.nil w).va.va
     clear hW1
     go_loopw [5] (fun i wr => ∃ q : Nat, q ≤ ds.length ∧ i = .int .i64 q ∧ St w wr [ne w.heap.size k s a1 ds.length c1, ne (w.heap.size + 1) k s a2 ds.length c2] ∧ sameL ds es = sameL (ds.drop q) (es.drop q)) (fun i _ => ds.length - (intOf i).toNat)
     case atStart => exact ⟨0, Nat.zero_le _, rfl, HS1.out, rfl⟩
     obtain ⟨q, hq, rfl, hS, hr⟩ := hrel
     have HR := hide hr
     have HSr := hide hS
     clear hS hr HS1
     by_cases hlt : q < ds.length
     ·
      have hlt' : q < es.length := by rw [HN.out]; exact hlt
      have hlti : (q : Int) < (ds.length : Int) := by omega
      obtain ⟨b, o, cap2, k1, s1, y1, m1, e1, hv, hFb, g0, g1, g2, hc⟩ := HSL.out.kid hlt
      obtain ⟨b', o', cap2', k2, s2, y2, m2, e2, hv', hFb', f0, f1, f2, he⟩ := HSL'.out.kid hlt'
      cases hv
      rw [HN.out] at hv'
      cases hv'
      have hdr : sameL (ds.drop q) (es.drop q) = (sameN ds[q] es[q] && sameL (ds.drop (q + 1)) (es.drop (q + 1))) := by rw [List.drop_eq_getElem_cons hlt, List.drop_eq_getElem_cons hlt', sameL]
      have HD := hide hdr
      have HC1 := hide hc
      have HC2 := hide he
      clear hdr hc he
      have hzr := HSr.out.below.size
      have hb1 : b < wr.heap.size := by omega
      have hb2 : b' < wr.heap.size := by omega
      have hlb1 : b < w.heap.size := hFb
      have hlb2 : b' < w.heap.size := hFb'
      have HCx0_0 := hide ((Below.cell HSr.out.below (p := ⟨b, o + q * 3, none⟩) (hlb1)).trans g0)
      have HCx1_0 := hide ((Below.cell HSr.out.below (p := ⟨b, o + q * 3 + 1, none⟩) (hlb1)).trans g1)
      have HCx2_0 := hide ((Below.cell HSr.out.below (p := ⟨b, o + q * 3 + 2, none⟩) (hlb1)).trans g2)
      have HCx3_0 := hide ((Below.cell HSr.out.below (p := ⟨b', o' + q * 3, none⟩) (hlb2)).trans f0)
      have HCx4_0 := hide ((Below.cell HSr.out.below (p := ⟨b', o' + q * 3 + 1, none⟩) (hlb2)).trans f1)
      have HCx5_0 := hide ((Below.cell HSr.out.below (p := ⟨b', o' + q * 3 + 2, none⟩) (hlb2)).trans f2)
      clear g0 g1 g2 f0 f1 f2
      have p0 := rD HSr
      go_wp2_with fail
      refine namedWp fun W2 hW2 => ?_
      have HS2 := hide (St.onto hW2 HSr.out)
      have HCx02 := hide (onto_cell hW2 HCx0_0.out)
      clear HCx0_0
      have HCx12 := hide (onto_cell hW2 HCx1_0.out)
      clear HCx1_0
      have HCx22 := hide (onto_cell hW2 HCx2_0.out)
      clear HCx2_0
      have HCx32 := hide (onto_cell hW2 HCx3_0.out)
      clear HCx3_0
      have HCx42 := hide (onto_cell hW2 HCx4_0.out)
      clear HCx4_0
      have HCx52 := hide (onto_cell hW2 HCx5_0.out)
      clear HCx5_0
      clear hW2 HSr
      clear p0
      refine wp_region_held_drew (S := fun w' => (w'.cell? ⟨w.heap.size, 0, none⟩ = some (.int .i64 k) ∧ w'.cell? ⟨w.heap.size, 1, none⟩ = some (.string s) ∧ w'.cell? ⟨w.heap.size, 2, none⟩ = some (.slice (some ⟨b, o, none⟩) ds.length c1)) ∧ (w'.cell? ⟨w.heap.size + 1, 0, none⟩ = some (.int .i64 k) ∧ w'.cell? ⟨w.heap.size + 1, 1, none⟩ = some (.string s) ∧ w'.cell? ⟨w.heap.size + 1, 2, none⟩ = some (.slice (some ⟨b', o', none⟩) ds.length c2)) ∧ (w'.cell? ⟨b, o + q * 3, none⟩ = some (.int .i64 k1)) ∧ (w'.cell? ⟨b, o + q * 3 + 1, none⟩ = some (.string s1)) ∧ (w'.cell? ⟨b, o + q * 3 + 2, none⟩ = some (.slice y1 m1 e1)) ∧ (w'.cell? ⟨b', o' + q * 3, none⟩ = some (.int .i64 k2)) ∧ (w'.cell? ⟨b', o' + q * 3 + 1, none⟩ = some (.string s2)) ∧ (w'.cell? ⟨b', o' + q * 3 + 2, none⟩ = some (.slice y2 m2 e2))) (by kernel_rfl) ?_ (fun hHeld => ?_)
      · exact And.intro (St.cells HS2.out.dr 0 rfl) (And.intro (St.cells HS2.out.dr 1 rfl) (And.intro (HCx02.out) (And.intro (HCx12.out) (And.intro (HCx22.out) (And.intro (HCx32.out) (And.intro (HCx42.out) (HCx52.out)))))))
      refine namedAny fun W3 hW3 => ?_
      have HS3 := hide (St.onto hW3 HS2.out.dr)
      have HCx03 := hide (onto_cell hW3 (dr_cell HCx02.out))
      clear HCx02
      have HCx13 := hide (onto_cell hW3 (dr_cell HCx12.out))
      clear HCx12
      have HCx23 := hide (onto_cell hW3 (dr_cell HCx22.out))
      clear HCx22
      have HCx33 := hide (onto_cell hW3 (dr_cell HCx32.out))
      clear HCx32
      have HCx43 := hide (onto_cell hW3 (dr_cell HCx42.out))
      clear HCx42
      have HCx53 := hide (onto_cell hW3 (dr_cell HCx52.out))
      clear HCx52
      clear hW3 HS2
      have hSn := And.intro (St.cells HS3.out 0 rfl) (And.intro (St.cells HS3.out 1 rfl) (And.intro (HCx03.out) (And.intro (HCx13.out) (And.intro (HCx23.out) (And.intro (HCx33.out) (And.intro (HCx43.out) (HCx53.out)))))))
      clear hHeld
      refine takeH (i := 0) (v := ?_) rfl (by kernel_rfl) (by kernel_rfl) (by kernel_rfl) (fun _ _ _ h => h) (by rfl) (by assumption) (fun w hSw => ?_) ?_; rotate_left
      · (try dsimp only at hSw); (try go_split_ands); go_simp; all_goals with_reducible rfl
      try simp only [Act.put, List.getElem_toArray, List.getElem_cons_zero, List.setIfInBounds_toArray, List.set_cons_zero, List.set_cons_succ]
      refine takeH (i := 1) (v := ?_) rfl (by kernel_rfl) (by kernel_rfl) (by kernel_rfl) (fun _ _ _ h => h) (by rfl) (by assumption) (fun w hSw => ?_) ?_; rotate_left
      · (try dsimp only at hSw); (try go_split_ands); go_simp; all_goals with_reducible rfl
      try simp only [Act.put, List.getElem_toArray, List.getElem_cons_zero, List.getElem_cons_succ, List.setIfInBounds_toArray, List.set_cons_zero, List.set_cons_succ]
      refine takeH (i := 2) (v := ?_) rfl (by kernel_rfl) (by kernel_rfl) (by kernel_rfl) (fun _ _ _ h => h) (by rfl) (by assumption) (fun w hSw => ?_) ?_; rotate_left
      · (try dsimp only at hSw); (try go_split_ands); go_simp; all_goals with_reducible rfl
      try simp only [Act.put, List.getElem_toArray, List.getElem_cons_zero, List.getElem_cons_succ, List.setIfInBounds_toArray, List.set_cons_zero, List.set_cons_succ]
      refine takeH (i := 3) (v := ?_) rfl (by kernel_rfl) (by kernel_rfl) (by kernel_rfl) (fun _ _ _ h => h) (by rfl) (by assumption) (fun w hSw => ?_) ?_; rotate_left
      · (try dsimp only at hSw); (try go_split_ands); go_simp; all_goals with_reducible rfl
      try simp only [Act.put, List.getElem_toArray, List.getElem_cons_zero, List.getElem_cons_succ, List.setIfInBounds_toArray, List.set_cons_zero, List.set_cons_succ]
      refine takeH (i := 4) (v := ?_) rfl (by kernel_rfl) (by kernel_rfl) (by kernel_rfl) (fun _ _ _ h => h) (by rfl) (by assumption) (fun w hSw => ?_) ?_; rotate_left
      · (try dsimp only at hSw); (try go_split_ands); go_simp; all_goals with_reducible rfl
      try simp only [Act.put, List.getElem_toArray, List.getElem_cons_zero, List.getElem_cons_succ, List.setIfInBounds_toArray, List.set_cons_zero, List.set_cons_succ]
      refine takeH (i := 5) (v := ?_) rfl (by kernel_rfl) (by kernel_rfl) (by kernel_rfl) (fun _ _ _ h => h) (by rfl) (by assumption) (fun w hSw => ?_) ?_; rotate_left
      · (try dsimp only at hSw); (try go_split_ands); go_simp; all_goals with_reducible rfl
      try simp only [Act.put, List.getElem_toArray, List.getElem_cons_zero, List.getElem_cons_succ, List.setIfInBounds_toArray, List.set_cons_zero, List.set_cons_succ]
      refine takeH (i := 6) (v := ?_) rfl (by kernel_rfl) (by kernel_rfl) (by kernel_rfl) (fun _ _ _ h => h) (by rfl) (by assumption) (fun w hSw => ?_) ?_; rotate_left
      · (try dsimp only at hSw); (try go_split_ands); go_simp; all_goals with_reducible rfl
      try simp only [Act.put, List.getElem_toArray, List.getElem_cons_zero, List.getElem_cons_succ, List.setIfInBounds_toArray, List.set_cons_zero, List.set_cons_succ]
      refine takeH (i := 7) (v := ?_) rfl (by kernel_rfl) (by kernel_rfl) (by kernel_rfl) (fun _ _ _ h => h) (by rfl) (by assumption) (fun w hSw => ?_) ?_; rotate_left
      · (try dsimp only at hSw); (try go_split_ands); go_simp; all_goals with_reducible rfl
      try simp only [Act.put, List.getElem_toArray, List.getElem_cons_zero, List.getElem_cons_succ, List.setIfInBounds_toArray, List.set_cons_zero, List.set_cons_succ]
      refine takeH (i := 8) (v := ?_) rfl (by kernel_rfl) (by kernel_rfl) (by kernel_rfl) (fun _ _ _ h => h) (by rfl) (by assumption) (fun w hSw => ?_) ?_; rotate_left
      · (try dsimp only at hSw); (try go_split_ands); go_simp; all_goals with_reducible rfl
      try simp only [Act.put, List.getElem_toArray, List.getElem_cons_zero, List.getElem_cons_succ, List.setIfInBounds_toArray, List.set_cons_zero, List.set_cons_succ]
      refine takeH (i := 9) (v := ?_) rfl (by kernel_rfl) (by kernel_rfl) (by kernel_rfl) (fun _ _ _ h => h) (by rfl) (by assumption) (fun w hSw => ?_) ?_; rotate_left
      · (try dsimp only at hSw); (try go_split_ands); go_simp; all_goals with_reducible rfl
      try simp only [Act.put, List.getElem_toArray, List.getElem_cons_zero, List.getElem_cons_succ, List.setIfInBounds_toArray, List.set_cons_zero, List.set_cons_succ]
      refine rY 10 fun K hK => ?_
      clear hSn
      go_simp
      have hI1 : Is W3 ds[q] _ := HC1.out.below (HS3.out.below) HS3.out.below.size
      have hI2 : Is W3 es[q] _ := HC2.out.below (HS3.out.below) HS3.out.below.size
      have hzw := HS3.out.below.size
      refine (HIH.out ds[q] (List.getElem_mem hlt) es[q] _ _ _ hI1 hI2).mono ?_
      rintro e w4 ⟨rfl, hb4⟩
      have HS4 := hide (HS3.out.call hb4)
      have HCx04 := hide ((Below.cell hb4 (p := ⟨b, o + q * 3, none⟩) (Nat.lt_of_lt_of_le hlb1 (by omega))).trans HCx03.out)
      clear HCx03
      have HCx14 := hide ((Below.cell hb4 (p := ⟨b, o + q * 3 + 1, none⟩) (Nat.lt_of_lt_of_le hlb1 (by omega))).trans HCx13.out)
      clear HCx13
      have HCx24 := hide ((Below.cell hb4 (p := ⟨b, o + q * 3 + 2, none⟩) (Nat.lt_of_lt_of_le hlb1 (by omega))).trans HCx23.out)
      clear HCx23
      have HCx34 := hide ((Below.cell hb4 (p := ⟨b', o' + q * 3, none⟩) (Nat.lt_of_lt_of_le hlb2 (by omega))).trans HCx33.out)
      clear HCx33
      have HCx44 := hide ((Below.cell hb4 (p := ⟨b', o' + q * 3 + 1, none⟩) (Nat.lt_of_lt_of_le hlb2 (by omega))).trans HCx43.out)
      clear HCx43
      have HCx54 := hide ((Below.cell hb4 (p := ⟨b', o' + q * 3 + 2, none⟩) (Nat.lt_of_lt_of_le hlb2 (by omega))).trans HCx53.out)
      clear HCx53
      clear hb4 HS3
      clear hI1 hI2 hzw
      go_simp
      refine onK hK (And.intro (St.cells HS4.out 0 rfl) (And.intro (St.cells HS4.out 1 rfl) (And.intro (HCx04.out) (And.intro (HCx14.out) (And.intro (HCx24.out) (And.intro (HCx34.out) (And.intro (HCx44.out) (HCx54.out)))))))) ?_
      clear hK K
      have hSn := And.intro (St.cells HS4.out 0 rfl) (And.intro (St.cells HS4.out 1 rfl) (And.intro (HCx04.out) (And.intro (HCx14.out) (And.intro (HCx24.out) (And.intro (HCx34.out) (And.intro (HCx44.out) (HCx54.out)))))))
      refine takeH (i := 11) (v := ?_) rfl (by kernel_rfl) (by kernel_rfl) (by kernel_rfl) (fun _ _ _ h => h) (by rfl) (by assumption) (fun w hSw => ?_) ?_; rotate_left
      · (try dsimp only at hSw); (try go_split_ands); go_simp; all_goals with_reducible rfl
      try simp only [Act.put, List.getElem_toArray, List.getElem_cons_zero, List.getElem_cons_succ, List.setIfInBounds_toArray, List.set_cons_zero, List.set_cons_succ]
      refine wpAnyH_done (by kernel_rfl) ?_ _
      clear hSn
      go_wp2_with fail
      all_goals
        rename_i hx
        first
          | (go_ret; exact ⟨by rw [HR.out, HD.out, show sameN ds[q] es[q] = false by simpa using hx]; rfl, HS4.out.below⟩)
          | exact ⟨⟨q + 1, by omega, by go_num, HS4.out, by rw [HR.out, HD.out, show sameN ds[q] es[q] = true by simpa using hx]; rfl⟩, by simp [intOf]; omega⟩
     have p0 := rD HSr
     have hlti : ¬ (q : Int) < (ds.length : Int) := by omega
     go_wp2_with fail
     go_ret
     exact ⟨by rw [HR.out, List.drop_eq_nil_of_le (by omega), List.drop_eq_nil_of_le (by rw [HN.out]; omega)]; rfl, HSr.out.below⟩
    have e0 : ((ds.length : Int) != (es.length : Int)) = true := bne_iff_ne.2 (by omega)
    have hle := sameL_len ds es h3
    have HL := hide hle
    clear hle h3
    go_enter Try.func18, Try.ntmps18
    go_wp2_with fail
    go_ret
    exact ⟨by rw [HL.out]; rfl, ((Below.refl _ w).alloc (Nat.le_refl _) _).alloc (by simp) _⟩
   simp only [decide_eq_false h2, Bool.false_and]
   have e3 : (s.toList != s'.toList) = true := by simpa using (fun e => h2 (bytesEq e))
   have e4 : (s.toList == s'.toList) = false := beq_eq_false_iff_ne.2 (fun e => h2 (bytesEq e))
   go_enter Try.func18, Try.ntmps18
   go_wp2_with fail
   go_ret
   exact ⟨rfl, ((Below.refl _ w).alloc (Nat.le_refl _) _).alloc (by simp) _⟩
  have e3 : (k != k') = true := by simpa using h1
  simp only [decide_eq_false h1, Bool.false_and]
  clear h1
  go_enter Try.func18, Try.ntmps18
  go_wp2_with fail
  go_ret
  exact ⟨rfl, ((Below.refl _ w).alloc (Nat.le_refl _) _).alloc (by simp) _⟩
end Go.Proofs.Ytacgmmpdichlmaa
