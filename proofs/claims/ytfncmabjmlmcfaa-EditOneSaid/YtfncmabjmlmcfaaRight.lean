/-
  The walk of edit.Right: it says whether edits may be made.
  Its condition: the slice reads as the edits l.
-/
import Derived.Test.YtfncmabjmlmcfaaMem
namespace Go.Proofs.Ytfncmabjmlmcfaa
open Go.RowKit

set_option maxHeartbeats 400000 in
theorem right_any (a : Option Addr) (m cap : Nat) (l : List Ed) (n : Int) (w : World) (hI : IsEds w (· < w.heap.size) a m l) :
    Calls Try.prog 18 #[.slice a m cap, .int .i64 n] w (RightPost w (decide (l.length ≤ 1000) && okGo n (-1) 0 l)) := by
  have hml : m = l.length := hI.1
  subst hml
  by_cases hbig : 1000 < l.length
  · go_enter Try.func18, Try.ntmps18
    go_wp2_with fail
    go_ret
    exact ⟨by simp; omega, Below.refl _ _⟩
  · go_enter Try.func18, Try.ntmps18
    go_wp2_with fail
    have hd : decide (l.length ≤ 1000) = true := by simp; omega
    have HD := hide hd
    clear hd
    go_loopw [14] (fun i wr => ∃ (k : Nat) (la lb : Int) (tx : ByteArray), k ≤ l.length ∧ i = .int .i64 k ∧ Below w.heap.size w wr ∧ Blk wr w.heap.size 36 #[.int .i64 la, .int .i64 lb, .string tx] ∧ okGo n (-1) 0 l = okGo n la lb (l.drop k)) (fun i _ => l.length - (intOf i).toNat)
    case atStart => 
      exact ⟨0, -1, 0, _, Nat.zero_le _, rfl, (Below.refl _ _).alloc (Nat.le_refl _) _, Blk.new _ _ _, rfl⟩
    case round =>
      obtain ⟨k, la, lb, tx, hk, rfl, hb, hblk, hgo⟩ := hrel
      obtain ⟨c0, c1, c2, f0, f1, f2⟩ := hblk.three
      have hsz := hblk.lt
      by_cases hlt : k < l.length
      · obtain ⟨b, o, rfl, hFb, ⟨h0, h1, h2⟩, _⟩ := hI.get hlt
        have g0 := (hb.cell (p := ⟨b, o + k * 3, none⟩) hFb).trans h0
        have g1 := (hb.cell (p := ⟨b, o + k * 3 + 1, none⟩) hFb).trans h1
        have g2 := (hb.cell (p := ⟨b, o + k * 3 + 2, none⟩) hFb).trans h2
        clear h0 h1 h2
        have HG := hide hgo
        clear hgo
        go_wp2_with fail
        case roundEnd =>
          go_roundw
          case rel =>
            have hok : okOne n la lb l[k] = true := by simp [okOne]; omega
            exact ⟨k + 1, _, _, _, by omega, by go_num, (((hb.setCell (p := ⟨w.heap.size, 0, none⟩) (Nat.le_refl _) _).setCell (p := ⟨w.heap.size, 1, none⟩) (Nat.le_refl _) _).setCell (p := ⟨w.heap.size, 2, none⟩) (Nat.le_refl _) _).alloc (by simp; omega) _, (((hblk.set_ 0 _).set_ 1 _).set_ 2 _).alloc _, by rw [HG.out, okGo_ok hlt hok]⟩
          case measure => simp [intOf]; omega
        all_goals
          have hok : okOne n la lb l[k] = false := by simp [okOne]; omega
          go_ret
          exact ⟨by rw [HD.out, HG.out, okGo_bad hlt hok]; rfl, hb.alloc (by omega) _⟩
      · go_wp2_with fail
        go_ret
        exact ⟨by rw [HD.out, hgo, List.drop_eq_nil_of_le (by omega)]; rfl, hb⟩
end Go.Proofs.Ytfncmabjmlmcfaa
