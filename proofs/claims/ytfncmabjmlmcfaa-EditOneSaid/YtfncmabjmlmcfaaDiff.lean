/-
  The walks of edit.Diff and of the reference's Diff: both hand back the edit between two texts.
  Their conditions: the texts are no longer than a text may be.
-/
import Derived.Test.YtfncmabjmlmcfaaMem
namespace Go.Proofs.Ytfncmabjmlmcfaa
open Go.RowKit

set_option maxHeartbeats 1000000 in
theorem diff_other_any (a b : ByteArray) (w : World) (ha : a.size ≤ 9223372036854775807) (hb : b.size ≤ 9223372036854775807) (hne : (a.toList == b.toList) = false) :
    Calls Try.prog 15 #[.string a, .string b] w (EdsPost w (diffL a b)) := by
  go_enter Try.func15, Try.ntmps15
  go_upto_block 0 with fail
  go_cut [5] (fun s wx => ∃ j, s = .int .i64 (preB a b 0) ∧ wx = w.drewN j)
  case first =>
   go_wp2_with fail
   go_loopw [5] (fun i wr => ∃ (k j : Nat), k ≤ a.size ∧ k ≤ b.size ∧ i = .int .i64 k ∧ wr = w.drewN j ∧ preB a b 0 = k + preB a b k) (fun i _ => a.size - (intOf i).toNat)
   case atStart => exact ⟨0, 0, Nat.zero_le _, Nat.zero_le _, rfl, rfl, by omega⟩
   case round =>
    obtain ⟨k, j, hka, hkb, rfl, rfl, hp⟩ := hrel
    have HP := hide hp
    clear hp
    by_cases hlt : k < a.size ∧ k < b.size
    · obtain ⟨h1, h2⟩ := hlt
      by_cases hba : b.size < a.size
      all_goals
        go_wp2_with fail
        go_quiet (fail)
        go_wp2_with fail
        case roundEnd =>
          have h : ((a[k].toNat : Int) == (b[k].toNat : Int)) = true := by assumption
          go_roundw
          case rel => exact ⟨k + 1, _, by omega, by omega, by go_num, rfl, by rw [HP.out, preB_go h1 h2 h]; omega⟩
          case measure => simp [intOf]; omega
        · have h : ((a[k].toNat : Int) == (b[k].toNat : Int)) = false := by assumption
          go_meet
          case rel => exact ⟨_, by rw [HP.out, preB_ne h1 h2 h]; rfl, World.drewN_drewN _ _ _⟩
    · by_cases hba : b.size < a.size
      · have hd : decide (k < b.size) = false := by simp; omega
        go_wp2_with fail
        go_quiet (fail)
        go_wp2_with fail
        go_meet
        case rel => exact ⟨_, by rw [HP.out, preB_end (by omega)]; rfl, World.drewN_drewN _ _ _⟩
      · have hd : decide (k < a.size) = false := by simp; omega
        go_wp2_with fail
        go_quiet (fail)
        go_wp2_with fail
        go_meet
        case rel => exact ⟨_, by rw [HP.out, preB_end (by omega)]; rfl, World.drewN_drewN _ _ _⟩
  case rest =>
    obtain ⟨j, rfl, rfl⟩ := hcut
    have hp1 : preB a b 0 ≤ a.size := by have := pre_le_left (a.data.toList.drop 0) (b.data.toList.drop 0); simpa [preB] using this
    have hp2 : preB a b 0 ≤ b.size := by have := pre_le_right (a.data.toList.drop 0) (b.data.toList.drop 0); simpa [preB] using this
    generalize hpp : preB a b 0 = p at *
    have HPP := hide hpp
    clear hpp
    go_wp2_with fail
    go_quiet (fail)
    go_upto_block 2 with fail
    have hxs : (a.extract p a.size).size ≤ 9223372036854775807 := by simp; omega
    have hys : (b.extract p b.size).size ≤ 9223372036854775807 := by simp; omega
    generalize hxx : a.extract p a.size = x at *
    generalize hyy : b.extract p b.size = y at *
    have HX := hide hxx
    have HY := hide hyy
    clear hxx hyy
    go_cut [6] (fun s wx => ∃ j, s = .int .i64 (sufB x y 0) ∧ wx = w.drewN j)
    case first =>
     go_wp2_with fail
     go_loopw [6] (fun i wr => ∃ (k j : Nat), k ≤ x.size ∧ k ≤ y.size ∧ i = .int .i64 k ∧ wr = w.drewN j ∧ sufB x y 0 = k + sufB x y k) (fun i _ => x.size - (intOf i).toNat)
     case atStart => exact ⟨0, _, Nat.zero_le _, Nat.zero_le _, rfl, World.drewN_drewN _ _ _, by omega⟩
     case round =>
      obtain ⟨k, j, hka, hkb, rfl, rfl, hp⟩ := hrel
      have HP := hide hp
      clear hp
      by_cases hlt : k < x.size ∧ k < y.size
      · obtain ⟨h1, h2⟩ := hlt
        have x1 : x.size - 1 - k < x.size := by omega
        have y1 : y.size - 1 - k < y.size := by omega
        have x2 : IntKind.i64.wrap ((x.size : Int) - 1) = (x.size : Int) - 1 := IntWalk.i64_in _ (by omega)
        have y2 : IntKind.i64.wrap ((y.size : Int) - 1) = (y.size : Int) - 1 := IntWalk.i64_in _ (by omega)
        have x3 : IntKind.i64.wrap ((x.size : Int) - 1 - (k : Int)) = (x.size : Int) - 1 - (k : Int) := IntWalk.i64_in _ (by omega)
        have y3 : IntKind.i64.wrap ((y.size : Int) - 1 - (k : Int)) = (y.size : Int) - 1 - (k : Int) := IntWalk.i64_in _ (by omega)
        have x4 : 0 ≤ (x.size : Int) - 1 - (k : Int) := by omega
        have y4 : 0 ≤ (y.size : Int) - 1 - (k : Int) := by omega
        have x6 : (k : Int) ≤ (x.size : Int) - 1 := by omega
        have y6 : (k : Int) ≤ (y.size : Int) - 1 := by omega
        have x7 : (x.size : Int) - 1 - (k : Int) < (x.size : Int) := by omega
        have y7 : (y.size : Int) - 1 - (k : Int) < (y.size : Int) := by omega
        have x5 : ((x.size : Int) - 1 - (k : Int)).toNat = x.size - 1 - k := by omega
        have y5 : ((y.size : Int) - 1 - (k : Int)).toNat = y.size - 1 - k := by omega
        by_cases hba : y.size < x.size
        all_goals
          go_wp2_with fail
          go_quiet (fail)
          clear x2 x3 y2 y3
          go_wp2_with fail
          case roundEnd =>
            have h : ((x[x.size - 1 - k].toNat : Int) == (y[y.size - 1 - k].toNat : Int)) = true := by assumption
            go_roundw
            case rel => exact ⟨k + 1, _, by omega, by omega, by go_num, rfl, by rw [HP.out, sufB_go h1 h2 h]; omega⟩
            case measure => simp [intOf]; omega
          · have h : ((x[x.size - 1 - k].toNat : Int) == (y[y.size - 1 - k].toNat : Int)) = false := by assumption
            go_meet
            case rel => exact ⟨_, by rw [HP.out, sufB_ne h1 h2 h]; rfl, World.drewN_drewN _ _ _⟩
      · by_cases hba : y.size < x.size
        · have hd : decide (k < y.size) = false := by simp; omega
          go_wp2_with fail
          go_quiet (fail)
          go_wp2_with fail
          go_meet
          case rel => exact ⟨_, by rw [HP.out, sufB_end (by omega)]; rfl, World.drewN_drewN _ _ _⟩
        · have hd : decide (k < x.size) = false := by simp; omega
          go_wp2_with fail
          go_quiet (fail)
          go_wp2_with fail
          go_meet
          case rel => exact ⟨_, by rw [HP.out, sufB_end (by omega)]; rfl, World.drewN_drewN _ _ _⟩
    case rest =>
      obtain ⟨j, rfl, rfl⟩ := hcut
      have hp1 := sufB_le_left x y
      have hp2 := sufB_le_right x y
      generalize hss : sufB x y 0 = s at *
      have HSS := hide hss
      clear hss
      go_wp2_with fail
      go_ret
      exact diff_close (by simpa [maxLen] using ha) (by simpa [maxLen] using hb) hne HPP.out HX.out HY.out HSS.out (below_drewN (Below.refl _ _) j)

set_option maxHeartbeats 400000 in
theorem diff_any (a b : ByteArray) (w : World) (ha : a.size ≤ 9223372036854775807) (hb : b.size ≤ 9223372036854775807) :
    Calls Try.prog 15 #[.string a, .string b] w (EdsPost w (diffL a b)) := by
  by_cases h : (a.toList == b.toList) = true
  · rw [diff_same h]
    go_enter Try.func15, Try.ntmps15
    go_wp2_with fail
    go_ret
    exact edsPost_nil _ _ (Below.refl _ _) _
  · exact diff_other_any a b w ha hb (by simpa using h)

set_option maxHeartbeats 1000000 in
theorem refDiff_other_any (a b : ByteArray) (w : World) (ha : a.size ≤ 9223372036854775807) (hb : b.size ≤ 9223372036854775807) (hne : (a.toList == b.toList) = false) :
    Calls Try.prog 16 #[.string a, .string b] w (EdsPost w (diffL a b)) := by
  go_enter Try.func16, Try.ntmps16
  go_upto_block 0 with fail
  go_cut [5] (fun s wx => ∃ j, s = .int .i64 (preB a b 0) ∧ wx = w.drewN j)
  case first =>
   go_wp2_with fail
   go_loopw [5] (fun i wr => ∃ (k j : Nat), k ≤ a.size ∧ k ≤ b.size ∧ i = .int .i64 k ∧ wr = w.drewN j ∧ preB a b 0 = k + preB a b k) (fun i _ => a.size - (intOf i).toNat)
   case atStart => exact ⟨0, 0, Nat.zero_le _, Nat.zero_le _, rfl, rfl, by omega⟩
   case round =>
    obtain ⟨k, j, hka, hkb, rfl, rfl, hp⟩ := hrel
    have HP := hide hp
    clear hp
    by_cases h1 : k < a.size
    · by_cases h2 : k < b.size
      · go_wp2_with fail
        go_quiet (fail)
        go_wp2_with fail
        case roundEnd =>
          have h : ((a[k].toNat : Int) == (b[k].toNat : Int)) = true := by assumption
          go_roundw
          case rel => exact ⟨k + 1, _, by omega, by omega, by go_num, rfl, by rw [HP.out, preB_go h1 h2 h]; omega⟩
          case measure => simp [intOf]; omega
        · have h : ((a[k].toNat : Int) == (b[k].toNat : Int)) = false := by assumption
          go_meet
          case rel => exact ⟨_, by rw [HP.out, preB_ne h1 h2 h]; rfl, World.drewN_drewN _ _ _⟩
      · have hd : decide (k < b.size) = false := by simp; omega
        go_wp2_with fail
        go_quiet (fail)
        go_wp2_with fail
        go_meet
        case rel => exact ⟨_, by rw [HP.out, preB_end (by omega)]; rfl, World.drewN_drewN _ _ _⟩
    · have hd : decide (k < a.size) = false := by simp; omega
      go_wp2_with fail
      go_quiet (fail)
      go_wp2_with fail
      go_meet
      case rel => exact ⟨_, by rw [HP.out, preB_end (by omega)]; rfl, World.drewN_drewN _ _ _⟩
  case rest =>
    obtain ⟨j, rfl, rfl⟩ := hcut
    have hp1 := preB_le_left a b
    have hp2 := preB_le_right a b
    generalize hpp : preB a b 0 = p at *
    have HPP := hide hpp
    clear hpp
    go_upto_block 2 with fail
    go_cut [6] (fun s wx => ∃ j, s = .int .i64 (sufB (a.extract p a.size) (b.extract p b.size) 0) ∧ wx = w.drewN j)
    case first =>
     go_wp2_with fail
     go_loopw [6] (fun i wr => ∃ (k j : Nat), k ≤ a.size - p ∧ k ≤ b.size - p ∧ i = .int .i64 k ∧ wr = w.drewN j ∧ sufB (a.extract p a.size) (b.extract p b.size) 0 = k + sufB (a.extract p a.size) (b.extract p b.size) k) (fun i _ => a.size - (intOf i).toNat)
     case atStart => exact ⟨0, _, Nat.zero_le _, Nat.zero_le _, rfl, rfl, by omega⟩
     case round =>
      obtain ⟨k, j, hka, hkb, rfl, rfl, hp⟩ := hrel
      have HP := hide hp
      clear hp
      have p2 : IntKind.i64.wrap ((a.size : Int) - (p : Int)) = (a.size : Int) - (p : Int) := IntWalk.i64_in _ (by omega)
      have q2 : IntKind.i64.wrap ((b.size : Int) - (p : Int)) = (b.size : Int) - (p : Int) := IntWalk.i64_in _ (by omega)
      by_cases h1 : k < a.size - p
      · have i1 : (k : Int) < (a.size : Int) - (p : Int) := by omega
        have d1 : decide ((k : Int) < (a.size : Int) - (p : Int)) = true := by simpa using i1
        by_cases h2 : k < b.size - p
        · have i2 : (k : Int) < (b.size : Int) - (p : Int) := by omega
          have d2 : decide ((k : Int) < (b.size : Int) - (p : Int)) = true := by simpa using i2
          have x1 : a.size - 1 - k < a.size := by omega
          have y1 : b.size - 1 - k < b.size := by omega
          have x4 : 0 ≤ (a.size : Int) - 1 - (k : Int) := by omega
          have y4 : 0 ≤ (b.size : Int) - 1 - (k : Int) := by omega
          have x6 : (k : Int) ≤ (a.size : Int) - 1 := by omega
          have y6 : (k : Int) ≤ (b.size : Int) - 1 := by omega
          have x7 : (a.size : Int) - 1 - (k : Int) < (a.size : Int) := by omega
          have y7 : (b.size : Int) - 1 - (k : Int) < (b.size : Int) := by omega
          have x2 : IntKind.i64.wrap ((a.size : Int) - 1) = (a.size : Int) - 1 := IntWalk.i64_in _ (by omega)
          have y2 : IntKind.i64.wrap ((b.size : Int) - 1) = (b.size : Int) - 1 := IntWalk.i64_in _ (by omega)
          have x3 : IntKind.i64.wrap ((a.size : Int) - 1 - (k : Int)) = (a.size : Int) - 1 - (k : Int) := IntWalk.i64_in _ (by omega)
          have y3 : IntKind.i64.wrap ((b.size : Int) - 1 - (k : Int)) = (b.size : Int) - 1 - (k : Int) := IntWalk.i64_in _ (by omega)
          have x5 : ((a.size : Int) - 1 - (k : Int)).toNat = a.size - 1 - k := by omega
          have y5 : ((b.size : Int) - 1 - (k : Int)).toNat = b.size - 1 - k := by omega
          go_wp2_with fail
          go_quiet (fail)
          clear x2 x3 y2 y3 p2 q2
          go_wp2_with fail
          case roundEnd =>
            have h : ((a[a.size - 1 - k].toNat : Int) == (b[b.size - 1 - k].toNat : Int)) = true := by assumption
            go_roundw
            case rel => exact ⟨k + 1, _, by omega, by omega, by go_num, rfl, by rw [HP.out, sufX_go h1 h2 h]; omega⟩
            case measure => simp [intOf]; omega
          · have h : ((a[a.size - 1 - k].toNat : Int) == (b[b.size - 1 - k].toNat : Int)) = false := by assumption
            go_meet
            case rel => exact ⟨_, by rw [HP.out, sufX_ne h1 h2 h]; rfl, World.drewN_drewN _ _ _⟩
        · have hd : decide ((k : Int) < (b.size : Int) - (p : Int)) = false := by simp; omega
          go_wp2_with fail
          go_quiet (fail)
          clear p2 q2
          go_wp2_with fail
          go_meet
          case rel => exact ⟨_, by rw [HP.out, sufX_end (by omega)]; rfl, World.drewN_drewN _ _ _⟩
      · have hd : decide ((k : Int) < (a.size : Int) - (p : Int)) = false := by simp; omega
        go_wp2_with fail
        go_quiet (fail)
        clear p2 q2
        go_wp2_with fail
        go_meet
        case rel => exact ⟨_, by rw [HP.out, sufX_end (by omega)]; rfl, World.drewN_drewN _ _ _⟩
    case rest =>
      obtain ⟨j, rfl, rfl⟩ := hcut
      have hs1 := sufB_le_left (a.extract p a.size) (b.extract p b.size)
      have hs2 := sufB_le_right (a.extract p a.size) (b.extract p b.size)
      have hx : (a.extract p a.size).size = a.size - p := by simp
      have hy : (b.extract p b.size).size = b.size - p := by simp
      rw [hx] at hs1
      rw [hy] at hs2
      generalize hss : sufB (a.extract p a.size) (b.extract p b.size) 0 = s at *
      have HSS := hide hss
      clear hss hx hy
      go_wp2_with fail
      go_ret
      exact diff_close2 (by simpa [maxLen] using ha) (by simpa [maxLen] using hb) hne HPP.out HSS.out (below_drewN (Below.refl _ _) j)

set_option maxHeartbeats 400000 in
theorem refDiff_any (a b : ByteArray) (w : World) (ha : a.size ≤ 9223372036854775807) (hb : b.size ≤ 9223372036854775807) :
    Calls Try.prog 16 #[.string a, .string b] w (EdsPost w (diffL a b)) := by
  by_cases h : (a.toList == b.toList) = true
  · rw [diff_same h]
    go_enter Try.func16, Try.ntmps16
    go_wp2_with fail
    go_ret
    exact edsPost_nil _ _ (Below.refl _ _) _
  · exact refDiff_other_any a b w ha hb (by simpa using h)

end Go.Proofs.Ytfncmabjmlmcfaa
