/-
  The reference's deep: where too many brackets are open. Its condition: the parser's items lie in memory.
-/
import Derived.Test.YtacgmmpdichlmaaM02
namespace Go.Proofs.Ytacgmmpdichlmaa
open Go.RowKit
attribute [local go_sem ↓] Go.wp_at_zero Go.wp_at_succ

set_option maxRecDepth 100000 in
set_option maxHeartbeats 4000000 in
theorem deep_any {l : List Tk} {a : Option Addr} {cap : Nat} {w : World} (hi : Its w a l) :
    Calls Try.prog 41 #[.slice a l.length cap] w fun e w' => (∃ r : Int, e = .returned (.int .i64 r) ∧ -1 ≤ r ∧ r < l.length ∧ (l.length ≤ 256 → r = -1)) ∧ Below w.heap.size w w' := by
  have hlen := hi.2.1
  go_enter Try.func41, Try.ntmps41
  go_wp2_with fail
  go_loopw [3, 4] (fun n i wr => ∃ (k nn : Nat), n = .int .i64 nn ∧ i = .int .i64 k ∧ nn ≤ k ∧ nn ≤ 256 ∧ k ≤ l.length ∧ Below w.heap.size w wr) (fun _ i _ => l.length - (intOf i).toNat)
  case atStart => exact ⟨0, 0, rfl, rfl, by omega, by omega, by omega, Below.refl _ _⟩
  case round =>
    obtain ⟨k, nn, rfl, rfl, hk1, hk2, hk3, hb⟩ := hrel
    by_cases hlt : k < l.length
    · obtain ⟨b, o, rfl, hF, h0, h1⟩ := (hi.1).get hlt
      replace h0 := (hb.cell (p := ⟨b, o + k * 4, none⟩) hF).trans h0
      replace h1 := (hb.cell (p := ⟨b, o + k * 4 + 1, none⟩) hF).trans h1
      obtain ⟨t, ht⟩ : ∃ t, t = l[k] := ⟨_, rfl⟩
      rw [← ht] at h0 h1
      clear ht
      have hB1 := fun o => bl_al hb o
      have HB := hide hb
      clear hb
      by_cases h9 : t.kind = 9
      ·
        have e9 : (t.kind == 9) = true := by simpa using h9
        have e10 : (t.kind == 10) = false := by rw [h9]; rfl
        have e13 : (t.kind == 13) = false := by rw [h9]; rfl
        clear h9
        by_cases h256 : nn < 256
        · go_wp2_with fail
          go_roundw
          case rel => exact ⟨k + 1, nn + 1, by go_num, by go_num, by omega, by omega, by omega, hB1 _⟩
          case measure => simp [intOf]; omega
        · obtain rfl : nn = 256 := by omega
          go_wp2_with fail
          go_ret
          exact ⟨⟨_, rfl, by omega, by omega, fun h => by omega⟩, hB1 _⟩
      have e9 : (t.kind == 9) = false := by simpa using h9
      clear h9
      by_cases h10 : t.kind = 10
      ·
        have e10 : (t.kind == 10) = true := by simpa using h10
        have e13 : (t.kind == 13) = false := by rw [h10]; rfl
        clear h10
        go_wp2_with fail
        go_roundw
        case rel => exact ⟨k + 1, nn - 1, by simp; omega, by go_num, by omega, by omega, by omega, hB1 _⟩
        case measure => simp [intOf]; omega
      have e10 : (t.kind == 10) = false := by simpa using h10
      clear h10
      by_cases h13 : t.kind = 13
      ·
        have e13 : (t.kind == 13) = true := by simpa using h13
        clear h13
        cases q0 : (t.text.toList == [40]) with
        | true =>
          by_cases h256 : nn < 256
          · go_wp2_with fail
            go_roundw
            case rel => exact ⟨k + 1, nn + 1, by go_num, by go_num, by omega, by omega, by omega, hB1 _⟩
            case measure => simp [intOf]; omega
          · obtain rfl : nn = 256 := by omega
            go_wp2_with fail
            go_ret
            exact ⟨⟨_, rfl, by omega, by omega, fun h => by omega⟩, hB1 _⟩
        | false =>
          cases q1 : (t.text.toList == [91]) with
          | true =>
            by_cases h256 : nn < 256
            · go_wp2_with fail
              go_roundw
              case rel => exact ⟨k + 1, nn + 1, by go_num, by go_num, by omega, by omega, by omega, hB1 _⟩
              case measure => simp [intOf]; omega
            · obtain rfl : nn = 256 := by omega
              go_wp2_with fail
              go_ret
              exact ⟨⟨_, rfl, by omega, by omega, fun h => by omega⟩, hB1 _⟩
          | false =>
            cases q2 : (t.text.toList == [123]) with
            | true =>
              by_cases h256 : nn < 256
              · go_wp2_with fail
                go_roundw
                case rel => exact ⟨k + 1, nn + 1, by go_num, by go_num, by omega, by omega, by omega, hB1 _⟩
                case measure => simp [intOf]; omega
              · obtain rfl : nn = 256 := by omega
                go_wp2_with fail
                go_ret
                exact ⟨⟨_, rfl, by omega, by omega, fun h => by omega⟩, hB1 _⟩
            | false =>
              cases q3 : (t.text.toList == [41]) with
              | true =>
                go_wp2_with fail
                go_roundw
                case rel => exact ⟨k + 1, nn - 1, by simp; omega, by go_num, by omega, by omega, by omega, hB1 _⟩
                case measure => simp [intOf]; omega
              | false =>
                cases q4 : (t.text.toList == [93]) with
                | true =>
                  go_wp2_with fail
                  go_roundw
                  case rel => exact ⟨k + 1, nn - 1, by simp; omega, by go_num, by omega, by omega, by omega, hB1 _⟩
                  case measure => simp [intOf]; omega
                | false =>
                  cases q5 : (t.text.toList == [125]) with
                  | true =>
                    go_wp2_with fail
                    go_roundw
                    case rel => exact ⟨k + 1, nn - 1, by simp; omega, by go_num, by omega, by omega, by omega, hB1 _⟩
                    case measure => simp [intOf]; omega
                  | false =>
                    go_wp2_with fail
                    go_roundw
                    case rel => exact ⟨k + 1, nn, by go_num, by go_num, by omega, by omega, by omega, hB1 _⟩
                    case measure => simp [intOf]; omega
      have e13 : (t.kind == 13) = false := by simpa using h13
      clear h13
      go_wp2_with fail
      go_roundw
      case rel => exact ⟨k + 1, nn, by go_num, by go_num, by omega, by omega, by omega, hB1 _⟩
      case measure => simp [intOf]; omega
    · go_wp2_with fail
      go_ret
      exact ⟨⟨-1, rfl, by omega, by omega, fun _ => rfl⟩, hb⟩
end Go.Proofs.Ytacgmmpdichlmaa
