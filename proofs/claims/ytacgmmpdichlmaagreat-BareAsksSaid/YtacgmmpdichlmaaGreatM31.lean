/-
  The law's paths: are two rows of paths the same? Its conditions: the slices read as paths.
  All of the reference's parser's functions that call each other: what they hand back, by how much is left. Their condition: the parser's items lie in memory.
-/
import Derived.Test.YtacgmmpdichlmaaGreatM27
import Derived.BigQuiet
import Derived.Test.YtacgmmpdichlmaaGreatM10
import Derived.Test.YtacgmmpdichlmaaGreatM11
import Derived.Test.YtacgmmpdichlmaaGreatM12
import Derived.Test.YtacgmmpdichlmaaGreatM13
import Derived.Test.YtacgmmpdichlmaaGreatM28
import Derived.Test.YtacgmmpdichlmaaGreatM15
import Derived.Test.YtacgmmpdichlmaaGreatM16
import Derived.Test.YtacgmmpdichlmaaGreatM17
import Derived.Test.YtacgmmpdichlmaaGreatM18
import Derived.Test.YtacgmmpdichlmaaGreatM19
import Derived.Test.YtacgmmpdichlmaaGreatM04
import Derived.Test.YtacgmmpdichlmaaGreatM20
import Derived.Test.YtacgmmpdichlmaaGreatM21
import Derived.Test.YtacgmmpdichlmaaGreatM22
import Derived.Test.YtacgmmpdichlmaaGreatM23
namespace Go.Proofs.YtacgmmpdichlmaaGreat
open Go.RowKit
attribute [local go_sem ↓] Go.wp_at_zero Go.wp_at_succ

theorem take_next {α : Type} {l l' : List α} {q : Nat} (h : q < l.length) (h' : q < l'.length) (ht : l.take q = l'.take q) (hx : l[q] = l'[q]) : l.take (q + 1) = l'.take (q + 1) := by
  rw [List.take_succ_eq_append_getElem h, List.take_succ_eq_append_getElem h', ht, hx]
theorem take_differ {α : Type} {l l' : List α} {q : Nat} (h : q < l.length) (h' : q < l'.length) (hx : l[q] ≠ l'[q]) : l ≠ l' := fun e => hx (by subst e; rfl)
theorem take_all {α : Type} {l l' : List α} (h : l.length = l'.length) (ht : l.take l.length = l'.take l.length) : l = l' := by
  rw [List.take_length, List.take_of_length_le (by omega)] at ht
  exact ht
set_option maxRecDepth 100000 in
set_option maxHeartbeats 4000000 in
theorem eqPaths_any {A B : List (List Int)} {u u' : Value} {w : World} {F : Nat → Prop} (h : IsPaths w F u A) (h' : IsPaths w F u' B) : Calls Tryz.prog 28 #[u, u'] w (Says (decide (A = B)) w) := by
  obtain ⟨a, c, rfl, hl, -⟩ := id h
  obtain ⟨a', c', rfl, hl', -⟩ := id h'
  have HA := hide h
  have HB := hide h'
  simp only [maxLen] at hl hl'
  clear h h'
  by_cases hne : A.length = B.length
  · have HN := hide hne
    rw [← hne] at HB hl' ⊢
    have e0 : ((A.length : Int) != (A.length : Int)) = false := by simp
    clear hne
    go_enter Tryz.func28, Tryz.ntmps28
    go_wp2_with fail
    go_loopw [5, 6] (fun i _ wr => ∃ (q n : Nat), q ≤ A.length ∧ i = .int .i64 q ∧ wr = w.drewN n ∧ A.take q = B.take q) (fun i _ _ => A.length - (intOf i).toNat)
    case atStart => exact ⟨0, 0, Nat.zero_le _, rfl, rfl, rfl⟩
    case round =>
      obtain ⟨q, n, hq, rfl, rfl, ht⟩ := hrel
      have HT := hide ht
      clear ht
      by_cases hlt : q < A.length
      · have hlti : (q : Int) < (A.length : Int) := by omega
        have hlt' : q < B.length := by rw [← HN.out]; exact hlt
        obtain ⟨b, o, x, rfl, hb, g, hx⟩ := HA.out.get hlt
        have hB := HB.out
        rw [HN.out] at hB
        obtain ⟨b', o', x', hv', hb', g', hx'⟩ := hB.get hlt'
        obtain rfl := hv'
        obtain ⟨X, hX⟩ : ∃ X, A[q] = X := ⟨_, rfl⟩
        obtain ⟨Y, hY⟩ : ∃ Y, B[q] = Y := ⟨_, rfl⟩
        rw [hX] at hx
        rw [hY] at hx'
        have HX := hide hX
        have HY := hide hY
        obtain ⟨xa, xc, rfl, hxl, -⟩ := id hx
        obtain ⟨ya, yc, rfl, hyl, -⟩ := id hx'
        have HXP := hide hx
        have HYP := hide hx'
        simp only [maxLen] at hxl hyl
        clear hX hY hx hx' hB
        by_cases hxy : X.length = Y.length
        · have HXY := hide hxy
          rw [← hxy] at g' HYP hyl
          have e1 : ((X.length : Int) != (X.length : Int)) = false := by simp
          clear hxy
          go_wp2_with fail
          go_quiet (fail)
          go_wp2_with fail
          go_loopw [6] (fun j wr => ∃ (m k : Nat), m ≤ X.length ∧ j = .int .i64 m ∧ wr = w.drewN k ∧ X.take m = Y.take m) (fun j _ => X.length - (intOf j).toNat)
          case atStart => exact ⟨0, _, Nat.zero_le _, rfl, by first | rfl | rw [World.drewN_drewN], rfl⟩
          case round =>
            obtain ⟨m, k, hm, rfl, rfl, htm⟩ := hrel
            have HTM := hide htm
            clear htm
            by_cases hlm : m < X.length
            · have hlmi : (m : Int) < (X.length : Int) := by omega
              have hlm' : m < Y.length := by rw [← HXY.out]; exact hlm
              obtain ⟨xb, xo, rfl, -, f⟩ := HXP.out.get hlm
              have hYP := HYP.out
              rw [HXY.out] at hYP
              obtain ⟨yb, yo, rfl, -, f'⟩ := hYP.get hlm'
              obtain ⟨x1, hx1⟩ : ∃ x1, X[m] = x1 := ⟨_, rfl⟩
              obtain ⟨y1, hy1⟩ : ∃ y1, Y[m] = y1 := ⟨_, rfl⟩
              rw [hx1] at f
              rw [hy1] at f'
              have HX1 := hide hx1
              have HY1 := hide hy1
              clear hx1 hy1 hYP
              by_cases hxy1 : x1 = y1
              · have e2 : (x1 != y1) = false := by simpa using hxy1
                have HE := hide hxy1
                clear hxy1
                go_wp2_with fail
                go_quiet (fail)
                go_wp2_with fail
                exact ⟨⟨m + 1, _, by omega, by go_num, by first | rfl | rw [World.drewN_drewN], take_next hlm hlm' HTM.out (by rw [HX1.out, HY1.out, HE.out])⟩, by simp [intOf]; omega⟩
              · have e2 : (x1 != y1) = true := by simpa using hxy1
                have HE := hide hxy1
                clear hxy1
                go_wp2_with fail
                go_quiet (fail)
                go_wp2_with fail
                go_ret
                have hd : A ≠ B := take_differ hlt hlt' (by rw [HX.out, HY.out]; exact take_differ hlm hlm' (by rw [HX1.out, HY1.out]; exact HE.out))
                exact ⟨by simp [hd], by first | exact below_drewN (Below.refl _ w) _ | exact below_drewN (below_drewN (Below.refl _ w) _) _⟩
            · have hlmi : ¬ (m : Int) < (X.length : Int) := by omega
              obtain rfl : m = X.length := by omega
              go_wp2_with fail
              go_roundw
              case rel => exact ⟨q + 1, _, by omega, by go_num, rfl, take_next hlt hlt' HT.out (by rw [HX.out, HY.out]; exact take_all HXY.out HTM.out)⟩
              case measure => simp [intOf]; omega
        · have HXY := hide hxy
          have e1 : ((X.length : Int) != (Y.length : Int)) = true := by simp; omega
          clear hxy
          go_wp2_with fail
          go_quiet (fail)
          go_wp2_with fail
          go_ret
          have hd : A ≠ B := take_differ hlt hlt' (by rw [HX.out, HY.out]; exact fun e => HXY.out (by rw [e]))
          exact ⟨by simp [hd], by first | exact below_drewN (Below.refl _ w) _ | exact below_drewN (below_drewN (Below.refl _ w) _) _⟩
      · have hlti : ¬ (q : Int) < (A.length : Int) := by omega
        obtain rfl : q = A.length := by omega
        go_wp2_with fail
        go_ret
        have hd : A = B := take_all HN.out HT.out
        exact ⟨by simp [hd], by first | exact below_drewN (Below.refl _ w) _ | exact below_drewN (below_drewN (Below.refl _ w) _) _⟩
  · have HN := hide hne
    have e0 : ((A.length : Int) != (B.length : Int)) = true := by simp; omega
    clear hne
    go_enter Tryz.func28, Tryz.ntmps28
    go_wp2_with fail
    go_ret
    have hd : A ≠ B := fun e => HN.out (by rw [e])
    exact ⟨by simp [hd], Below.refl _ _⟩
end Go.Proofs.YtacgmmpdichlmaaGreat
namespace Go.Proofs.YtacgmmpdichlmaaGreat
open Go.RowKit

theorem kn_all (l : List Tk) (a : Option Addr) (cap : Nat) : ∀ m, Kn l a cap m
  | 0 => by constructor <;> intros <;> omega
  | m + 1 => by
    have K := kn_all l a cap m
    have hstr := fun ⦃i : Nat⦄ ⦃bad : Bool⦄ ⦃w : World⦄ (h1 : Its w a l) (h2 : i ≤ l.length) (h3 : leftP l.length i bad ≤ m) => str_k (cap := cap) K h1 h2 h3
    have hbracket := fun ⦃i : Nat⦄ ⦃bad : Bool⦄ ⦃w : World⦄ (h1 : Its w a l) (h2 : i ≤ l.length) (h3 : leftP l.length i bad ≤ m) => bracket_k (cap := cap) K h1 h2 h3
    have hworded := fun ⦃i : Nat⦄ ⦃w : World⦄ (h1 : Its w a l) (h2 : i < l.length) (h3 : leftP l.length i false ≤ m) => worded_k (cap := cap) K h1 h2 h3
    have hterm := fun ⦃i : Nat⦄ ⦃bad : Bool⦄ ⦃w : World⦄ (h1 : Its w a l) (h2 : i ≤ l.length) (h3 : leftP l.length i bad ≤ m) => term_k (cap := cap) K hstr hbracket hworded h1 h2 h3
    have hpost := fun ⦃i : Nat⦄ ⦃bad : Bool⦄ ⦃w : World⦄ (h1 : Its w a l) (h2 : i ≤ l.length) (h3 : leftP l.length i bad ≤ m) => post_k (cap := cap) K hterm h1 h2 h3
    have hunit := fun ⦃i : Nat⦄ ⦃bad : Bool⦄ ⦃w : World⦄ (h1 : Its w a l) (h2 : i ≤ l.length) (h3 : leftP l.length i bad ≤ m) => unit_k (cap := cap) K hpost h1 h2 h3
    have hvalue := fun ⦃i : Nat⦄ ⦃bad : Bool⦄ ⦃w : World⦄ (h1 : Its w a l) (h2 : i ≤ l.length) (h3 : leftP l.length i bad ≤ m) => value_k (cap := cap) K hunit h1 h2 h3
    have hpattern := fun ⦃i : Nat⦄ ⦃bad : Bool⦄ ⦃w : World⦄ (h1 : Its w a l) (h2 : i ≤ l.length) (h3 : leftP l.length i bad ≤ m) => pattern_k (cap := cap) K h1 h2 h3
    have hdef := fun ⦃i : Nat⦄ ⦃w : World⦄ (top : Bool) (h1 : Its w a l) (h2 : i < l.length) (h3 : leftP l.length i false ≤ m) => def_k (cap := cap) K top h1 h2 h3
    have hoperand := fun ⦃i : Nat⦄ ⦃bad : Bool⦄ ⦃w : World⦄ (h1 : Its w a l) (h2 : i ≤ l.length) (h3 : leftP l.length i bad ≤ m) => operand_k (cap := cap) K hpost hdef h1 h2 h3
    have hexp := fun ⦃i : Nat⦄ ⦃bad : Bool⦄ ⦃w : World⦄ (x : Nat) (h1 : Its w a l) (h2 : i ≤ l.length) (h3 : leftP l.length i bad ≤ m) => exp_k (cap := cap) K hoperand x h1 h2 h3
    have hpipe := fun ⦃i : Nat⦄ ⦃bad : Bool⦄ ⦃w : World⦄ (h1 : Its w a l) (h2 : i ≤ l.length) (h3 : leftP l.length i bad ≤ m) => pipe_k (cap := cap) K hexp h1 h2 h3
    have hkey := fun ⦃i : Nat⦄ ⦃bad : Bool⦄ ⦃w : World⦄ (pat : Bool) (h1 : Its w a l) (h2 : i ≤ l.length) (h3 : leftP l.length i bad ≤ m) => keyOf_k (cap := cap) K hstr pat h1 h2 h3
    exact {
      str := fun h1 h2 h3 => hstr h1 h2 (by omega)
      post := fun h1 h2 h3 => hpost h1 h2 (by omega)
      unit := fun h1 h2 h3 => hunit h1 h2 (by omega)
      value := fun h1 h2 h3 => hvalue h1 h2 (by omega)
      pattern := fun h1 h2 h3 => hpattern h1 h2 (by omega)
      keypat := fun h1 h2 h3 => keypat_k (cap := cap) K hpattern hkey h1 h2 (by omega)
      pair := fun h1 h2 h3 => pair_k (cap := cap) K hvalue hkey h1 h2 (by omega)
      pipe := fun h1 h2 h3 => hpipe h1 h2 (by omega)
      ifs := fun h1 h2 h3 => ifs_k (cap := cap) K hpipe h1 h2 (by omega)
      exp := fun x h1 h2 h3 => hexp x h1 h2 (by omega)
      fold := fun x y hx h1 h2 h3 => fold_k (cap := cap) K hpost hpattern hpipe x y hx h1 h2 (by omega)
      def_ := fun top h1 h2 h3 => hdef top h1 h2 (by omega) }
end Go.Proofs.YtacgmmpdichlmaaGreat
