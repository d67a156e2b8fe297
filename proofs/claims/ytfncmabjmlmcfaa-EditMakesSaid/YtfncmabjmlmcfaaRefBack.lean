/-
  The walk of the reference's Back.
  Its conditions: the slice reads as edits; where they may be made: the text and their texts have at most 1000000 bytes each.
-/
import Derived.Test.YtfncmabjmlmcfaaRefApply
import Derived.Test.YtfncmabjmlmcfaaEdits
import Derived.Deep.RegionHeld3
import Derived.Deep.AppendLies
namespace Go.Proofs.Ytfncmabjmlmcfaa
open Go.RowKit

/-- The edits that undo some; m: what those ahead have added. -/
def backGo (s : ByteArray) : Int → List Ed → List Ed
  | _, [] => []
  | m, e :: r => ⟨e.lo + m, e.lo + m + e.text.size, s.extract e.lo.toNat e.hi.toNat⟩ :: backGo s (m + moreE e) r
def BackPost (w : World) (l : List Ed) (k : IntKind) (n : Int) (e : Ending) (w' : World) : Prop :=
  ∃ a m c, e = .returned (.tuple #[.slice a m c, .int k n]) ∧ IsEds w' (fun b => w.heap.size ≤ b ∧ b < w'.heap.size) a m l ∧ Below w.heap.size w w'

theorem ownsRow_drewN {w : World} {base size n : Nat} {e : TypeId} {v : Value} {xs : List Value} (h : w.ownsRow base e size v n xs) (k : Nat) : (w.drewN k).ownsRow base e size v n xs := h

set_option maxRecDepth 100000 in
set_option maxHeartbeats 2000000 in
theorem refBack_yes (s : ByteArray) (a : Option Addr) (m cap : Nat) (l : List Ed) (w : World) (hI : IsEds w (· < w.heap.size) a m l) (hr : rightB l s.size = true) (hs : s.size ≤ 1000000) (ht : ∀ e ∈ l, e.text.size ≤ 1000000) :
    Calls Try.prog 30 #[.string s, .slice a m cap] w (BackPost w (backGo s 0 l) .i64 0) := by
  have hml : m = l.length := hI.1
  subst hml
  have hr1 : (decide (l.length ≤ 1000) && okGo s.size (-1) 0 l) = true := hr
  have hl : l.length ≤ 1000 := by simp at hr1; exact hr1.1
  have hok : okGo s.size (-1) 0 l = true := by simp at hr1; exact hr1.2
  have HC := refRight_any a l.length cap l s.size w hI
  rw [hr1] at HC
  have H2 := hide hok
  clear hr hr1 hok
  have HD := hide HC
  clear HC
  obtain ⟨i0, hi0, hz0, hz1, hz2⟩ := info_parts info36
  go_enter Try.func30, Try.ntmps30
  go_wp2_with fail
  refine (unhide HD).mono ?_
  clear HD
  rintro e w1 ⟨rfl, j0, rfl⟩
  go_wp2_with fail
  go_loopw [6, 7, 8] (fun o p i wr => ∃ (k : Nat) (q la lb : Int) (acc : List Ed), k ≤ l.length ∧ i = .int .i64 k ∧ p = .int .i64 q ∧ wr.ownsRow w.heap.size 36 3 o acc.length (acc.flatMap edCells) ∧ Below w.heap.size w wr ∧ acc.length = k ∧ (∀ e ∈ acc, e.fits) ∧
      -(1000000 * (k : Int)) ≤ q ∧ q ≤ 1000000 * (k : Int) ∧ okGo s.size la lb (l.drop k) = true ∧ backGo s 0 l = acc ++ backGo s q (l.drop k)) (fun _ _ i _ => l.length - (intOf i).toNat)
  case atStart => exact ⟨0, 0, -1, 0, [], Nat.zero_le _, rfl, rfl, World.ownsRow_nil _ _ _ _, below_drewN (Below.refl _ _) _, rfl, by simp, by omega, by omega, H2.out, rfl⟩
  case round =>
    obtain ⟨k, q, la, lb, acc, hk, rfl, rfl, hown, hb, hal, hfit, hq0, hq1, hok, hgo⟩ := hrel
    have HG := hide hgo
    have HA := hide hal
    have HF := hide hfit
    clear hgo hal hfit
    by_cases hlt : k < l.length
    · obtain ⟨b, o, rfl, hF, ⟨p0, p1, p2⟩, _⟩ := hI.get hlt
      have ht1 := ht _ (List.getElem_mem hlt)
      rw [List.drop_eq_getElem_cons hlt] at hok
      obtain ⟨o1, o2, o3, o4, o5, o6⟩ := okGo_cons hok
      have HO := hide o6
      have HS := hide (show ∀ m, backGo s m (l.drop k) = ⟨l[k].lo + m, l[k].lo + m + l[k].text.size, s.extract l[k].lo.toNat l[k].hi.toNat⟩ :: backGo s (m + moreE l[k]) (l.drop (k + 1)) from fun p => by rw [List.drop_eq_getElem_cons hlt]; rfl)
      clear hok o6 o4 o5
      obtain ⟨x, hx⟩ : ∃ x, x = l[k] := ⟨_, rfl⟩
      rw [← hx] at p0 p1 p2 ht1 o1 o2 o3 HO HS
      clear hx
      obtain ⟨lo, hi, tx⟩ := x
      dsimp only at p0 p1 p2 ht1 o1 o2 o3 HO HS
      obtain ⟨lo, rfl⟩ := Int.eq_ofNat_of_zero_le o1
      obtain ⟨hi, rfl⟩ := Int.eq_ofNat_of_zero_le (show 0 ≤ hi by omega)
      have g0 := (hb.cell (p := ⟨b, o + k * 3, none⟩) hF).trans p0
      have g1 := (hb.cell (p := ⟨b, o + k * 3 + 1, none⟩) hF).trans p1
      have g2 := (hb.cell (p := ⟨b, o + k * 3 + 2, none⟩) hF).trans p2
      clear p0 p1 p2
      have hz := hb.size
      have hal := HA.out
      have u1 : lo ≤ hi := by omega
      have u2 : hi ≤ s.size := by omega
      have ab : u6.ownBlock ≠ some b := fun h => by have := (hown.lt b h).1; omega
      have v2 : 0 ≤ (k : Int) := by omega
      have v3 : (k : Int) < (l.length : Int) := by omega
      have u3 : (lo : Int) ≤ (hi : Int) := by omega
      have u4 : (hi : Int) ≤ (s.size : Int) := by omega
      have hn1 : acc.length + 1 ≤ maxLen := by simp only [maxLen]; omega
      have hn2 : (acc.length + 1) * 32 ≤ 140737488355328 := by omega
      go_wp2_with fail
      have v1 : IntKind.i64.wrap ((lo : Int) + q + (tx.size : Int)) = (lo : Int) + q + (tx.size : Int) := IntWalk.i64_in _ (by omega)
      go_region_held3 (fun w' => w'.cell? ⟨b, o + k * 3, none⟩ = some (.int .i64 lo) ∧ w'.cell? ⟨b, o + k * 3 + 1, none⟩ = some (.int .i64 hi) ∧ w'.cell? ⟨b, o + k * 3 + 2, none⟩ = some (.string tx))
        (first
          | go_keep
          | (go_split_ands
             refine ⟨?_, ?_, ?_⟩
             · (rw [hgrow.cell_far _ (by simp; omega) (Ne.symm ab)]; assumption)
             · (rw [hgrow.cell_far _ (by simp; omega) (Ne.symm ab)]; assumption)
             · (rw [hgrow.cell_far _ (by simp; omega) (Ne.symm ab)]; assumption)))
        ((refine step_append_lies _ (by rfl) _ _ _ (by rfl) w.heap.size 36 i0 _ 3 32 Try.underlying26 hi0 hz0 hz1 hz2 rfl (by omega) u6 acc.length _ (by rfl) ((hown.alloc _).drew)
            ⟨wr.heap.size, 0, none⟩ 1 1 [.int .i64 (lo + q), .int .i64 (lo + q + tx.size), .string (s.extract lo hi)] (by rfl) (by rfl) (World.news_of_block (cs := #[.int .i64 (lo + q), .int .i64 (lo + q + tx.size), .string (s.extract lo hi)]) (t := 36) (fr := (0, 0)) (heap_alloc_new wr _)) (by simp [Value.oneCell'])
            (by omega) hn1 hn2 (by simp; omega) (wr.heap.size + 1) (by simp) ?_; intro gg cap' w1 hown1 hgrow hat hlt'))
      have hb1 : Below w.heap.size w w1 := ((hb.alloc hz _).drew).grown hgrow (by simp; omega) (fun r hr => (hown.lt r hr).1)
      clear v1 hgrow hown g0 g1 g2
      obtain ⟨g0, g1, g2⟩ : w1.cell? ⟨b, o + k * 3, none⟩ = some (.int .i64 lo) ∧ w1.cell? ⟨b, o + k * 3 + 1, none⟩ = some (.int .i64 hi) ∧ w1.cell? ⟨b, o + k * 3 + 2, none⟩ = some (.string tx) := by assumption
      have HM := hide (show (tx.size : Int) - ((hi : Int) - (lo : Int)) = moreE ⟨lo, hi, tx⟩ from rfl)
      have hmo := moreE_le (e := ⟨lo, hi, tx⟩) ⟨by simp, by simpa using u1, by simp; omega, ht1⟩
      go_wp2_with fail
      have w1' : IntKind.i64.wrap ((hi : Int) - (lo : Int)) = (hi : Int) - (lo : Int) := IntWalk.i64_in _ (by omega)
      have w2' : IntKind.i64.wrap ((tx.size : Int) - ((hi : Int) - (lo : Int))) = (tx.size : Int) - ((hi : Int) - (lo : Int)) := IntWalk.i64_in _ (by omega)
      have w3' : IntKind.i64.wrap (q + ((tx.size : Int) - ((hi : Int) - (lo : Int)))) = q + ((tx.size : Int) - ((hi : Int) - (lo : Int))) := IntWalk.i64_in _ (by rw [HM.out]; omega)
      go_quiet (fail)
      clear w1' w2' w3'
      go_wp2_with fail
      go_roundw
      case rel =>
        refine ⟨k + 1, q + moreE ⟨lo, hi, tx⟩, lo, hi, acc ++ [⟨lo + q, lo + q + tx.size, s.extract lo hi⟩], by omega, by go_num, rfl, ?_, below_drewN hb1 _, by simp; omega, ?_, by omega, by omega, HO.out, ?_⟩
        · rw [List.flatMap_append, List.length_append]
          obtain rfl := HA.out
          exact ownsRow_drewN hown1 _
        · intro e he
          rcases List.mem_append.1 he with he | he
          · exact HF.out e he
          · obtain rfl := List.mem_singleton.1 he
            refine ⟨by simp only []; omega, by simp only []; omega, by simp only []; omega, by simp only []; omega, ?_⟩
            simp only [ByteArray.size_extract, maxLen]; omega
        · rw [HG.out, HS.out]; simp
      case measure => simp [intOf]; omega
    · go_wp2_with fail
      go_ret2
      obtain ⟨a', c', hv, hI'⟩ := IsEds.of_own hown rfl (by have := HA.out; simp only [maxLen]; omega) HF.out
      subst hv
      exact ⟨a', _, c', rfl, by rw [HG.out, List.drop_eq_nil_of_le (by omega)]; simpa [backGo] using hI', hb⟩
set_option maxHeartbeats 400000 in
theorem refBack_no (s : ByteArray) (a : Option Addr) (m cap : Nat) (l : List Ed) (w : World) (hI : IsEds w (· < w.heap.size) a m l) (hr : rightB l s.size = false) (hs : s.size ≤ maxLen) :
    Calls Try.prog 30 #[.string s, .slice a m cap] w (BackPost w [] .i64 1) := by
  have hr1 : (decide (l.length ≤ 1000) && okGo s.size (-1) 0 l) = false := hr
  have HC := refRight_any a m cap l s.size w hI
  rw [hr1] at HC
  clear hr hr1
  have HD := hide HC
  clear HC
  go_enter Try.func30, Try.ntmps30
  go_wp2_with fail
  refine (unhide HD).mono ?_
  rintro e w1 ⟨rfl, j0, rfl⟩
  go_wp2_with fail
  go_ret2
  exact ⟨none, 0, 0, rfl, ⟨rfl, Nat.zero_le _, by simp, by simp⟩, below_drewN (Below.refl _ _) _⟩
end Go.Proofs.Ytfncmabjmlmcfaa
