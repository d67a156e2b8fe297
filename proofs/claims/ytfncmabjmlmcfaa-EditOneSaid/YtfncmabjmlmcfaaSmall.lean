/-
  The walks of four small functions: Same, heavy, more, and the reference's Shift.
  Their conditions: the slices read as edits; for Shift and more: edits of small numbers.
-/
import Derived.Test.YtfncmabjmlmcfaaMem
import Derived.Laws.StructEq
namespace Go.Proofs.Ytfncmabjmlmcfaa
open Go.RowKit

def eqEd (x y : Ed) : Bool := x.lo == y.lo && (x.hi == y.hi && (x.text.toList == y.text.toList))
def eqEds : List Ed → List Ed → Bool
  | [], [] => true
  | x :: a, y :: b => eqEd x y && eqEds a b
  | _, _ => false
theorem eqEds_len : ∀ {a b : List Ed}, a.length ≠ b.length → eqEds a b = false
  | [], [], h => by simp at h
  | [], _ :: _, _ => rfl
  | _ :: _, [], _ => rfl
  | x :: a, y :: b, h => by simp [eqEds, eqEds_len (a := a) (b := b) (by simpa using h)]
theorem eqEds_go {a b : List Ed} {k : Nat} (ha : k < a.length) (hb : k < b.length) : eqEds (a.drop k) (b.drop k) = (eqEd a[k] b[k] && eqEds (a.drop (k + 1)) (b.drop (k + 1))) := by
  rw [List.drop_eq_getElem_cons ha, List.drop_eq_getElem_cons hb]; rfl
theorem eqEds_refl : ∀ (a : List Ed), eqEds a a = true
  | [] => rfl
  | x :: a => by simp [eqEds, eqEd, eqEds_refl a]

theorem run_neq_ed (x y : Ed) (w : World) : (binOp .neq 36 (.agg #[.int .i64 x.lo, .int .i64 x.hi, .string x.text]) (.agg #[.int .i64 y.lo, .int .i64 y.hi, .string y.text])).run Try.prog w = .ok (.bool (!eqEd x y)) w := by
  rw [run_neq_struct, run_equalIn_agg _ _ _ _ _ (by kernel_rfl) (by kernel_rfl)]
  simp only [Program.fieldsOf, Try.underlying36]
  by_cases h1 : x.lo = y.lo
  · by_cases h2 : x.hi = y.hi
    · cases h3 : (x.text.toList == y.text.toList) <;> simp [go_sem, h1, h2, h3, eqEd]
    · simp [go_sem, h1, h2, eqEd]
  · simp [go_sem, h1, eqEd]

set_option maxHeartbeats 400000 in
theorem same_any (a b : Option Addr) (m n cap cap' : Nat) (l r : List Ed) (w : World) (hI : IsEds w (· < w.heap.size) a m l) (hJ : IsEds w (· < w.heap.size) b n r) :
    Calls Try.prog 14 #[.slice a m cap, .slice b n cap'] w fun e w' => e = .returned (.bool (eqEds l r)) ∧ ∃ j, w' = w.drewN j := by
  have hml : m = l.length := hI.1
  have hnr : n = r.length := hJ.1
  have hm := hI.2.1
  subst hml hnr
  simp only [maxLen] at hm
  by_cases hne : l.length = r.length
  · have hne' : ((l.length : Int) != (r.length : Int)) = false := by simp [hne]
    have HN := hide hne
    clear hne
    go_enter Try.func14, Try.ntmps14
    go_wp2_with fail
    go_loopw [5] (fun i wr => ∃ (k j : Nat), k ≤ l.length ∧ i = .int .i64 k ∧ wr = w.drewN j ∧ eqEds l r = eqEds (l.drop k) (r.drop k)) (fun i _ => l.length - (intOf i).toNat)
    case atStart => exact ⟨0, 0, Nat.zero_le _, rfl, rfl, rfl⟩
    case round =>
      obtain ⟨k, j, hk, rfl, rfl, hgo⟩ := hrel
      have HG := hide hgo
      clear hgo
      by_cases hlt : k < l.length
      · have hlt2 : k < r.length := by rw [← HN.out]; exact hlt
        obtain ⟨b1, o1, rfl, hF1, ⟨p0, p1, p2⟩, _⟩ := hI.get hlt
        obtain ⟨b2, o2, rfl, hF2, ⟨q0, q1, q2⟩, _⟩ := hJ.get hlt2
        have HE := hide (eqEds_go hlt hlt2)
        obtain ⟨x, hx⟩ : ∃ x, x = l[k] := ⟨_, rfl⟩
        obtain ⟨y, hy⟩ : ∃ y, y = r[k] := ⟨_, rfl⟩
        rw [← hx] at p0 p1 p2 HE
        rw [← hy] at q0 q1 q2 HE
        clear hx hy
        have hq := run_neq_ed x y
        cases hc : eqEd x y
        all_goals
          go_wp2_with fail
          go_quiet (fail)
          go_wp2_with fail
        · go_ret
          exact ⟨by rw [HG.out, HE.out, hc]; rfl, drewEx⟩
        · go_roundw
          case rel => exact ⟨k + 1, _, by omega, by go_num, rfl, by rw [HG.out, HE.out, hc]; rfl⟩
          case measure => simp [intOf]; omega
      · go_wp2_with fail
        go_ret
        exact ⟨by rw [HG.out, List.drop_eq_nil_of_le (by omega), List.drop_eq_nil_of_le (by have := HN.out; omega)]; rfl, _, rfl⟩
  · have hne' : ((l.length : Int) != (r.length : Int)) = true := by simp; omega
    have HN := hide (eqEds_len hne)
    go_enter Try.func14, Try.ntmps14
    go_wp2_with fail
    go_ret
    exact ⟨by rw [HN.out]; rfl, 0, rfl⟩

/-- What an edit adds. -/
def moreE (e : Ed) : Int := (e.text.size : Int) - (e.hi - e.lo)
/-- An edit of small numbers, the right way round. -/
def Ed.small (e : Ed) : Prop := 0 ≤ e.lo ∧ e.lo ≤ e.hi ∧ e.hi ≤ 1000000 ∧ e.text.size ≤ 1000000
theorem moreE_le {e : Ed} (h : e.small) : -1000000 ≤ moreE e ∧ moreE e ≤ 1000000 := by
  obtain ⟨h0, h1, h2, h3⟩ := h
  unfold moreE; omega

set_option maxHeartbeats 400000 in
theorem more_any (x : Ed) (w : World) (hs : x.small) :
    Calls Try.prog 29 #[.agg #[.int .i64 x.lo, .int .i64 x.hi, .string x.text]] w fun e w' => e = .returned (.int .i64 (moreE x)) ∧ Below w.heap.size w w' := by
  obtain ⟨h0, h1, h2, h3⟩ := hs
  go_enter Try.func29, Try.ntmps29
  go_wp2_with fail
  go_ret
  exact ⟨rfl, (Below.refl _ _).alloc (Nat.le_refl _) _⟩

def heavyN : List Ed → Int
  | [] => 0
  | e :: r => 1 + e.text.size + heavyN r
theorem heavyN_0 : ∀ (l : List Ed), 0 ≤ heavyN l
  | [] => by simp [heavyN]
  | e :: r => by have := heavyN_0 r; simp only [heavyN]; omega
theorem heavyN_snoc : ∀ (l : List Ed) (e : Ed), heavyN (l ++ [e]) = heavyN l + (1 + e.text.size)
  | [], e => by simp [heavyN]
  | x :: r, e => by simp only [List.cons_append, heavyN, heavyN_snoc r e]; omega
theorem heavyN_take {l : List Ed} {k : Nat} (h : k < l.length) : heavyN (l.take (k + 1)) = heavyN (l.take k) + (1 + l[k].text.size) := by
  rw [List.take_succ_eq_append_getElem h, heavyN_snoc]
theorem heavyN_le : ∀ (l : List Ed), (∀ e ∈ l, e.text.size ≤ 140737488351232) → heavyN l ≤ l.length * 140737488351233
  | [], _ => by simp [heavyN]
  | e :: r, h => by
    have h1 := heavyN_le r (fun x hx => h x (List.mem_cons_of_mem _ hx))
    have h2 := h e (List.mem_cons_self ..)
    simp only [heavyN, List.length_cons]; omega

/-- Some bool; the world as it was. -/
def SomeBool (w : World) (e : Ending) (w' : World) : Prop := (∃ h, e = .returned (.bool h)) ∧ w = w'

set_option maxHeartbeats 400000 in
theorem heavy_few (a : Option Addr) (m cap : Nat) (l : List Ed) (w : World) (hI : IsEds w (· < w.heap.size) a m l) (h1 : l.length ≤ 1000) (ht : ∀ e ∈ l, e.text.size ≤ 140737488351232) :
    Calls Try.prog 22 #[.slice a m cap] w fun e w' => e = .returned (.bool (decide (300 < heavyN l))) ∧ w = w' := by
  have hml : m = l.length := hI.1
  subst hml
  go_enter Try.func22, Try.ntmps22
  go_wp2_with fail
  go_loop [3, 4] (fun n i => ∃ k : Nat, k ≤ l.length ∧ i = .int .i64 k ∧ n = .int .i64 (heavyN (l.take k))) (fun _ i => l.length - (intOf i).toNat)
  case atStart => exact ⟨0, Nat.zero_le _, rfl, rfl⟩
  case round =>
    obtain ⟨k, hk, rfl, rfl⟩ := hrel
    have b0 := heavyN_0 (l.take k)
    have b1 := heavyN_le (l.take k) (fun e he => ht e (List.mem_of_mem_take he))
    have b2 : (l.take k).length ≤ 1000 := by simp; omega
    by_cases hlt : k < l.length
    · obtain ⟨b, o, rfl, hF, ⟨p0, p1, p2⟩, _⟩ := hI.get hlt
      have HT := hide (heavyN_take hlt)
      have b3 := ht _ (List.getElem_mem hlt)
      have b4 : heavyN (l.take k) ≤ 140737488351233000 := by omega
      go_wp2_with fail
      go_round
      case rel => exact ⟨k + 1, by omega, by go_num, by rw [HT.out]⟩
      case measure => simp [intOf]; omega
    · go_wp2_with fail
      go_ret
      exact ⟨by rw [List.take_of_length_le (by omega)]; rfl, rfl⟩
set_option maxHeartbeats 400000 in
theorem heavy_many (a : Option Addr) (m cap : Nat) (l : List Ed) (w : World) (hI : IsEds w (· < w.heap.size) a m l) :
    Calls Try.prog 22 #[.slice a m cap] w (SomeBool w) := by
  have hml : m = l.length := hI.1
  have hm := hI.2.1
  subst hml
  simp only [maxLen] at hm
  go_enter Try.func22, Try.ntmps22
  go_wp2_with fail
  go_loop [3, 4] (fun n i => ∃ (k : Nat) (q : Int), k ≤ l.length ∧ i = .int .i64 k ∧ n = .int .i64 q) (fun _ i => l.length - (intOf i).toNat)
  case atStart => exact ⟨0, _, Nat.zero_le _, rfl, rfl⟩
  case round =>
    obtain ⟨k, q, hk, rfl, rfl⟩ := hrel
    by_cases hlt : k < l.length
    · obtain ⟨b, o, rfl, hF, ⟨p0, p1, p2⟩, _⟩ := hI.get hlt
      go_wp2_with fail
      go_round
      case rel => exact ⟨k + 1, _, by omega, by go_num, rfl⟩
      case measure => simp [intOf]; omega
    · go_wp2_with fail
      go_ret
      exact ⟨⟨_, rfl⟩, rfl⟩

def shiftGo (p : Int) : Int → List Ed → Int
  | m, [] => p + m
  | m, e :: r => if e.hi ≤ p then shiftGo p (m + moreE e) r else if e.lo ≤ p then e.lo + m else shiftGo p m r

set_option maxHeartbeats 400000 in
theorem refShift_any (a : Option Addr) (m cap : Nat) (l : List Ed) (p : Int) (w : World) (hI : IsEds w (· < w.heap.size) a m l) (h1 : l.length ≤ 1000) (hs : ∀ e ∈ l, e.small) (hp : -1000000 ≤ p) (hp2 : p ≤ 1000000) :
    Calls Try.prog 24 #[.slice a m cap, .int .i64 p] w fun e w' => e = .returned (.int .i64 (shiftGo p 0 l)) ∧ ∃ j, w' = w.drewN j := by
  have hml : m = l.length := hI.1
  subst hml
  go_enter Try.func24, Try.ntmps24
  go_wp2_with fail
  go_loopw [5, 6] (fun n i wr => ∃ (k j : Nat) (q : Int), k ≤ l.length ∧ i = .int .i64 k ∧ n = .int .i64 q ∧ wr = w.drewN j ∧ -(1000000 * (k : Int)) ≤ q ∧ q ≤ 1000000 * (k : Int) ∧ shiftGo p 0 l = shiftGo p q (l.drop k)) (fun _ i _ => l.length - (intOf i).toNat)
  case atStart => exact ⟨0, 0, 0, Nat.zero_le _, rfl, rfl, rfl, by omega, by omega, rfl⟩
  case round =>
    obtain ⟨k, j, q, hk, rfl, rfl, rfl, hq0, hq1, hgo⟩ := hrel
    have HG := hide hgo
    clear hgo
    by_cases hlt : k < l.length
    · obtain ⟨b, o, rfl, hF, ⟨p0, p1, p2⟩, _⟩ := hI.get hlt
      have hsm := hs _ (List.getElem_mem hlt)
      have hmo := moreE_le hsm
      obtain ⟨s0, s1, s2, s3⟩ := hsm
      have HS := hide (show ∀ q, shiftGo p q (l.drop k) = if l[k].hi ≤ p then shiftGo p (q + moreE l[k]) (l.drop (k + 1)) else if l[k].lo ≤ p then l[k].lo + q else shiftGo p q (l.drop (k + 1)) from fun q => by rw [List.drop_eq_getElem_cons hlt]; rfl)
      obtain ⟨x, hx⟩ : ∃ x, x = l[k] := ⟨_, rfl⟩
      rw [← hx] at p0 p1 p2 HS hmo s0 s1 s2 s3
      clear hx
      by_cases c1 : x.hi ≤ p
      · have HM := hide (show (x.text.size : Int) - (x.hi - x.lo) = moreE x from rfl)
        have w1 : IntKind.i64.wrap (x.hi - x.lo) = x.hi - x.lo := IntWalk.i64_in _ (by omega)
        have w2 : IntKind.i64.wrap ((x.text.size : Int) - (x.hi - x.lo)) = (x.text.size : Int) - (x.hi - x.lo) := IntWalk.i64_in _ (by omega)
        have w3 : IntKind.i64.wrap (q + ((x.text.size : Int) - (x.hi - x.lo))) = q + ((x.text.size : Int) - (x.hi - x.lo)) := IntWalk.i64_in _ (by rw [HM.out]; omega)
        go_wp2_with fail
        go_quiet (fail)
        clear w1 w2 w3
        go_wp2_with fail
        go_roundw
        case rel => exact ⟨k + 1, _, q + moreE x, by omega, by go_num, rfl, rfl, by omega, by omega, by rw [HG.out, HS.out, if_pos c1]⟩
        case measure => simp [intOf]; omega
      · by_cases c2 : x.lo ≤ p
        · go_wp2_with fail
          go_ret
          exact ⟨by rw [HG.out, HS.out, if_neg (by omega), if_pos c2]; rfl, _, rfl⟩
        · go_wp2_with fail
          go_roundw
          case rel => exact ⟨k + 1, _, q, by omega, by go_num, rfl, rfl, by omega, by omega, by rw [HG.out, HS.out, if_neg (by omega), if_neg (by omega)]⟩
          case measure => simp [intOf]; omega
    · go_wp2_with fail
      go_ret
      exact ⟨by rw [HG.out, List.drop_eq_nil_of_le (by omega)]; rfl, _, rfl⟩
end Go.Proofs.Ytfncmabjmlmcfaa
