/-
  The walk of the reference's Apply.
  Its conditions: the slice reads as edits; where they may be made: the text and their texts have at most 1000000 bytes each.
-/
import Derived.Test.YtfncmabjmlmcfaaSmall
import Derived.Test.YtfncmabjmlmcfaaRefRight
namespace Go.Proofs.Ytfncmabjmlmcfaa
open Go.RowKit

/-- May they be made to n bytes? -/
def rightB (l : List Ed) (n : Int) : Bool := decide (l.length ≤ 1000) && okGo n (-1) 0 l
/-- s with edits made from byte p on, behind out. -/
def applyGo (s : ByteArray) : Nat → ByteArray → List Ed → ByteArray
  | p, out, [] => out ++ s.extract p s.size
  | p, out, e :: r => applyGo s e.hi.toNat ((out ++ s.extract p e.lo.toNat) ++ e.text) r
def applyB (s : ByteArray) (l : List Ed) : ByteArray := applyGo s 0 ByteArray.empty l

theorem okGo_cons {n la lb : Int} {e : Ed} {r : List Ed} (h : okGo n la lb (e :: r) = true) : 0 ≤ e.lo ∧ e.lo ≤ e.hi ∧ e.hi ≤ n ∧ lb ≤ e.lo ∧ la < e.lo ∧ okGo n e.lo e.hi r = true := by
  simp only [okGo, okOne, Bool.and_eq_true, Bool.not_eq_true', Bool.or_eq_false_iff, decide_eq_false_iff_not] at h
  obtain ⟨⟨⟨⟨⟨h0, h1⟩, h2⟩, h3⟩, h4⟩, h5⟩ := h
  exact ⟨by omega, by omega, by omega, by omega, by omega, h5⟩

set_option maxHeartbeats 1000000 in
theorem refApply_yes (s : ByteArray) (a : Option Addr) (m cap : Nat) (l : List Ed) (w : World) (hI : IsEds w (· < w.heap.size) a m l) (hr : rightB l s.size = true) (hs : s.size ≤ 1000000) (ht : ∀ e ∈ l, e.text.size ≤ 1000000) :
    Calls Try.prog 12 #[.string s, .slice a m cap] w fun e w' => e = .returned (.tuple #[.string (applyB s l), .int .i64 0]) ∧ ∃ j, w' = w.drewN j := by
  have hml : m = l.length := hI.1
  subst hml
  have hr1 : (decide (l.length ≤ 1000) && okGo s.size (-1) 0 l) = true := hr
  have hl : l.length ≤ 1000 := by simp at hr1; exact hr1.1
  have hok : okGo s.size (-1) 0 l = true := by simp at hr1; exact hr1.2
  have HC := refRight_any a l.length cap l s.size w hI
  rw [hr1] at HC
  have H1 := hide hr1
  have H2 := hide hok
  clear hr hr1 hok
  have HC := hide HC
  go_enter Try.func12, Try.ntmps12
  go_wp2_with fail
  refine (unhide HC).mono ?_
  rintro e w1 ⟨rfl, j0, rfl⟩
  go_wp2_with fail
  go_loopw [6, 7, 8] (fun o p i wr => ∃ (k j q : Nat) (out : ByteArray) (la : Int), k ≤ l.length ∧ i = .int .i64 k ∧ p = .int .i64 q ∧ o = .string out ∧ wr = w.drewN j ∧ q ≤ s.size ∧ out.size ≤ q + 1000000 * k ∧ okGo s.size la q (l.drop k) = true ∧ applyB s l = applyGo s q out (l.drop k)) (fun _ _ i _ => l.length - (intOf i).toNat)
  case atStart => exact ⟨0, j0, 0, ByteArray.empty, -1, Nat.zero_le _, rfl, rfl, rfl, rfl, Nat.zero_le _, by simp, H2.out, rfl⟩
  case round =>
    obtain ⟨k, j, q, out, la, hk, rfl, rfl, rfl, rfl, hq, hout, hok, hgo⟩ := hrel
    have HG := hide hgo
    clear hgo
    by_cases hlt : k < l.length
    · obtain ⟨b, o, rfl, hF, ⟨p0, p1, p2⟩, _⟩ := hI.get hlt
      have ht1 := ht _ (List.getElem_mem hlt)
      rw [List.drop_eq_getElem_cons hlt] at hok
      obtain ⟨o1, o2, o3, o4, o5, o6⟩ := okGo_cons hok
      have HO := hide o6
      have HS := hide (show ∀ p out, applyGo s p out (l.drop k) = applyGo s l[k].hi.toNat ((out ++ s.extract p l[k].lo.toNat) ++ l[k].text) (l.drop (k + 1)) from fun p out => by rw [List.drop_eq_getElem_cons hlt]; rfl)
      clear hok o6
      obtain ⟨x, hx⟩ : ∃ x, x = l[k] := ⟨_, rfl⟩
      rw [← hx] at p0 p1 p2 ht1 o1 o2 o3 o4 o5 HO HS
      clear hx
      obtain ⟨lo, hi, tx⟩ := x
      dsimp only at p0 p1 p2 ht1 o1 o2 o3 o4 o5 HO HS
      obtain ⟨lo, rfl⟩ := Int.eq_ofNat_of_zero_le o1
      obtain ⟨hi, rfl⟩ := Int.eq_ofNat_of_zero_le (show 0 ≤ hi by omega)
      have u1 : q ≤ lo := by omega
      have u2 : lo ≤ s.size := by omega
      go_wp2_with fail
      go_quiet (fail)
      go_wp2_with fail
      go_roundw
      case rel =>
        refine ⟨k + 1, _, hi, _, lo, by omega, by go_num, rfl, rfl, rfl, by omega, ?_, HO.out, ?_⟩
        · simp only [ByteArray.size_append, ByteArray.size_extract]; omega
        · rw [HG.out, HS.out]; simp
      case measure => simp [intOf]; omega
    · go_wp2_with fail
      go_ret2
      exact ⟨by rw [HG.out, List.drop_eq_nil_of_le (by omega)]; rfl, _, rfl⟩
set_option maxHeartbeats 400000 in
theorem refApply_no (s : ByteArray) (a : Option Addr) (m cap : Nat) (l : List Ed) (w : World) (hI : IsEds w (· < w.heap.size) a m l) (hr : rightB l s.size = false) (hs : s.size ≤ maxLen) :
    Calls Try.prog 12 #[.string s, .slice a m cap] w fun e w' => e = .returned (.tuple #[.string ByteArray.empty, .int .i64 1]) ∧ ∃ j, w' = w.drewN j := by
  have hr1 : (decide (l.length ≤ 1000) && okGo s.size (-1) 0 l) = false := hr
  have HC := refRight_any a m cap l s.size w hI
  rw [hr1] at HC
  clear hr hr1
  have HC := hide HC
  go_enter Try.func12, Try.ntmps12
  go_wp2_with fail
  refine (unhide HC).mono ?_
  rintro e w1 ⟨rfl, j0, rfl⟩
  go_wp2_with fail
  go_ret2
  exact ⟨rfl, _, rfl⟩
end Go.Proofs.Ytfncmabjmlmcfaa
