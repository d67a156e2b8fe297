/-
  The walks of makes and of EditMakes: each gives true.
  Their conditions: the text has at most 140737488351232 bytes, and each edit's text; the slices read as edits and as bytes.
-/
import Derived.Test.YtfncmabjmlmcfaaDiffW
import Derived.Test.YtfncmabjmlmcfaaBack
import Derived.Test.YtfncmabjmlmcfaaRefBack
import Derived.Test.YtfncmabjmlmcfaaShift
namespace Go.Proofs.Ytfncmabjmlmcfaa
open Go.RowKit Go.Shelf Go.WideShapes

set_option maxHeartbeats 4000000 in
theorem makes_any (s : ByteArray) (a : Option Addr) (m cap : Nat) (l : List Ed) (w : World) (hI : IsEds w (· < w.heap.size) a m l) (hs : s.size ≤ 1000000) (ht : rightB l s.size = true → ∀ e ∈ l, e.text.size ≤ 1000000) :
    Calls Try.prog 23 #[.string s, .slice a m cap] w fun e w' => e = .returned (.bool true) ∧ Below w.heap.size w w' := by
  by_cases hr : rightB l s.size = true
  · have htx := ht hr
    go_enter Try.func23, Try.ntmps23
    go_wp2_with fail
    refine (apply_yes s a m cap l w hI hr hs htx).mono ?_
    rintro e w1 ⟨rfl, hb1⟩
    have h1 := hI.on hb1
    go_wp2_with fail
    refine (refApply_yes s a m cap l w1 h1 hr hs htx).mono ?_
    rintro e w' ⟨rfl, j, rfl⟩
    have hB2 : Below w.heap.size w (w1.drewN j) := below_drewN hb1 j
    have h2 : IsEds (w1.drewN j) (· < (w1.drewN j).heap.size) a m l := h1
    obtain ⟨t, ht⟩ : ∃ t, t = applyB s l := ⟨_, rfl⟩
    rw [← ht]
    clear ht hb1 h1
    generalize w1.drewN j = w2 at hB2 h2 ⊢
    go_wp2_with fail
    refine (back_yes s a m cap l w2 h2 hr hs htx).mono ?_
    rintro e w3 ⟨a3, n3, c3, rfl, h3, hb3⟩
    have hB3 := hB2.trans (hb3.mono hB2.size)
    replace h2 := h2.on hb3
    replace h3 := h3.lt_
    clear hb3 hB2
    go_wp2_with fail
    refine (refBack_yes s a m cap l w3 h2 hr hs htx).mono ?_
    rintro e w4 ⟨a4, n4, c4, rfl, h4, hb4⟩
    have hB4 := hB3.trans (hb4.mono hB3.size)
    replace h3 := h3.on hb4
    replace h4 := h4.lt_
    clear hb4 hB3 h2 hr htx
    go_wp2_with fail
    refine (same_yes a3 a4 n3 n4 c3 c4 _ w4 h3 h4).mono ?_
    rintro e w' ⟨rfl, j, rfl⟩
    go_wp2_with fail
    go_ret
    exact ⟨rfl, below_drewN hB4 j⟩
  · have hr' : rightB l s.size = false := by simpa using hr
    have hs' : s.size ≤ maxLen := by simp only [maxLen]; omega
    go_enter Try.func23, Try.ntmps23
    go_wp2_with fail
    refine (apply_no s a m cap l w hI hr' hs').mono ?_
    rintro e w1 ⟨rfl, hb1⟩
    have h1 := hI.on hb1
    go_wp2_with fail
    refine (refApply_no s a m cap l w1 h1 hr' hs').mono ?_
    rintro e w' ⟨rfl, j, rfl⟩
    have hB2 : Below w.heap.size w (w1.drewN j) := below_drewN hb1 j
    have h2 : IsEds (w1.drewN j) (· < (w1.drewN j).heap.size) a m l := h1
    clear hb1 h1
    generalize w1.drewN j = w2 at hB2 h2 ⊢
    go_wp2_with fail
    refine (back_no s a m cap l w2 h2 hr').mono ?_
    rintro e w3 ⟨a3, n3, c3, rfl, h3, hb3⟩
    have hB3 := hB2.trans (hb3.mono hB2.size)
    replace h2 := h2.on hb3
    replace h3 := h3.lt_
    clear hb3 hB2
    go_wp2_with fail
    refine (refBack_no s a m cap l w3 h2 hr' hs').mono ?_
    rintro e w4 ⟨a4, n4, c4, rfl, h4, hb4⟩
    have hB4 := hB3.trans (hb4.mono hB3.size)
    replace h3 := h3.on hb4
    replace h4 := h4.lt_
    clear hb4 hB3 h2 hr hr'
    go_wp2_with fail
    refine (same_yes a3 a4 n3 n4 c3 c4 _ w4 h3 h4).mono ?_
    rintro e w' ⟨rfl, j, rfl⟩
    go_wp2_with fail
    go_ret
    exact ⟨rfl, below_drewN hB4 j⟩

theorem heavy_text : ∀ (l : List Ed), ∀ e ∈ l, (e.text.size : Int) < heavyN l
  | [], _, he => by cases he
  | x :: r, e, he => by
    have h0 := heavyN_0 r
    rw [heavyN]
    rcases List.mem_cons.1 he with rfl | he
    · omega
    · have := heavy_text r e he
      omega

/-- What heavy tells: where it says no, edits that may be made have short texts. -/
theorem heavy_any (a : Option Addr) (m cap : Nat) (l : List Ed) (w : World) (hI : IsEds w (· < w.heap.size) a m l) (ht : ∀ e ∈ l, e.text.size ≤ 140737488351232) :
    Calls Try.prog 22 #[.slice a m cap] w fun e w' => ∃ h : Bool, e = .returned (.bool h) ∧ w = w' ∧ (h = false → ∀ n : Nat, rightB l n = true → ∀ e ∈ l, e.text.size ≤ 1000000) := by
  by_cases h1 : l.length ≤ 1000
  · refine (heavy_few a m cap l w hI h1 ht).mono ?_
    rintro e w' ⟨rfl, rfl⟩
    refine ⟨_, rfl, rfl, fun hh n _ e he => ?_⟩
    have h2 := heavy_text l e he
    have h3 := of_decide_eq_false hh
    omega
  · refine (heavy_many a m cap l w hI).mono ?_
    rintro e w' ⟨⟨h, rfl⟩, rfl⟩
    refine ⟨h, rfl, rfl, fun _ n hr => ?_⟩
    simp [rightB, h1] at hr

set_option maxHeartbeats 8000000 in
theorem emakes_any (s : ByteArray) (b : Option Addr) (m cap : Nat) (l : List Ed) (n x : Int) (a : Option Addr) (m2 cap2 : Nat) (c : List Int) (kk : Int) (w : World) (hs : s.size ≤ 140737488351232)
    (hL : IsEds w (· < w.heap.size) b m l) (ht : ∀ e ∈ l, e.text.size ≤ 140737488351232) (hI : IsBytes w (· < w.heap.size) a m2 c) (hk0 : 0 ≤ kk) (hk1 : kk ≤ 255) :
    Calls Try.prog 10 #[.string s, .slice b m cap, .int .i64 n, .int .i64 x, .slice a m2 cap2, .int .u8 kk] w fun e w' => e = .returned (.bool true) ∧ Below w.heap.size w w' := by
  by_cases hbig : 300 < s.size
  · go_enter Try.func10, Try.ntmps10
    go_wp2_with fail
    refine (known_any w).mono ?_
    rintro e w1 ⟨rfl, hb⟩
    go_wp2_with fail
    go_ret
    exact ⟨rfl, hb⟩
  have HH := hide (heavy_any b m cap l w hL ht)
  go_enter Try.func10, Try.ntmps10
  go_wp2_with fail
  refine (unhide HH).mono ?_
  clear HH
  rintro e w' ⟨h, rfl, rfl, htx⟩
  cases h with
  | true =>
    go_wp2_with fail
    refine (known_any w).mono ?_
    rintro e w1 ⟨rfl, hb⟩
    go_wp2_with fail
    go_ret
    exact ⟨rfl, hb⟩
  | false =>
    have HT := hide (htx rfl s.size)
    clear htx ht
    go_wp2_with fail
    refine (known_any w).mono ?_
    rintro e w1 ⟨rfl, hb1⟩
    replace hL := hL.on hb1
    have hsm := edsL_small s.size 10 0 c
    have hlo := edsL_lo s.size 10 0 c (Int.le_refl _) (fun x hx => (hI.2.2.1 x hx).1)
    have HE := hide (edits_any a m2 cap2 c s.size w1 (hI.on hb1))
    obtain ⟨k, hk⟩ : ∃ k, k = edsL s.size 10 0 c := ⟨_, rfl⟩
    rw [← hk] at hsm hlo HE
    clear hk hI
    go_wp2_with fail
    refine (unhide HE).mono ?_
    clear HE
    rintro e w2 ⟨a2, n2, c2, rfl, h2, hb2⟩
    have hn2 : n2 = k.length := h2.1
    subst hn2
    have hB2 := hb1.trans (hb2.mono hb1.size)
    replace h2 := h2.lt_
    replace hL := hL.on hb2
    clear hb1 hb2
    go_wp2_with fail
    refine (makes_any s b m cap l w2 hL (by omega) (unhide HT)).mono ?_
    rintro e w3 ⟨rfl, hb3⟩
    have hB3 := hB2.trans (hb3.mono hB2.size)
    replace h2 := h2.on hb3
    replace hL := hL.on hb3
    clear hb3 hB2 HT
    go_wp2_with fail
    refine (makes_any s a2 k.length c2 k w3 h2 (by omega) (fun _ e he => by have := hsm.2 e he; omega)).mono ?_
    rintro e w4 ⟨rfl, hb4⟩
    have hB4 := hB3.trans (hb4.mono hB3.size)
    replace h2 := h2.on hb4
    replace hL := hL.on hb4
    clear hb4 hB3
    go_wp2_with fail
    refine (right_any b m cap l n w4 hL).mono ?_
    rintro e w5 ⟨rfl, hb5⟩
    have hB5 := hB4.trans (hb5.mono hB4.size)
    replace h2 := h2.on hb5
    replace hL := hL.on hb5
    clear hb5 hB4
    have HR := hide (refRight_any b m cap l n w5 hL)
    generalize (decide (l.length ≤ 1000) && okGo n (-1) 0 l) = r1 at HR ⊢
    go_wp2_with fail
    refine (unhide HR).mono ?_
    rintro e w' ⟨rfl, j, rfl⟩
    have hB6 : Below w.heap.size w (w5.drewN j) := below_drewN hB5 j
    have h6 : IsEds (w5.drewN j) (· < (w5.drewN j).heap.size) a2 k.length k := h2
    clear hB5 h2 hL HR
    generalize w5.drewN j = w6 at hB6 h6 ⊢
    obtain ⟨Q, hQ⟩ : ∃ Q : Nat, kk % 60 = (Q : Int) := ⟨(kk % 60).toNat, by omega⟩
    obtain ⟨X, hX⟩ : ∃ X : Int, x.tmod 1000 = X := ⟨_, rfl⟩
    have hX1 : -1000 < X ∧ X < 1000 := by
      rw [← hX]
      have h1 := Int.tmod_lt_of_pos x (show (0 : Int) < 1000 by decide)
      have h2 := Int.tmod_lt_of_pos (-x) (show (0 : Int) < 1000 by decide)
      rw [Int.neg_tmod] at h2
      omega
    go_wp2_with fail
    refine (right_any a2 k.length c2 k Q w6 h6).mono ?_
    rintro e w7 ⟨rfl, hb7⟩
    have hB7 := hB6.trans (hb7.mono hB6.size)
    replace h6 := h6.on hb7
    clear hb7 hB6
    have HR := hide (refRight_any a2 k.length c2 k Q w7 h6)
    generalize (decide (k.length ≤ 1000) && okGo (Q : Int) (-1) 0 k) = r2 at HR ⊢
    go_wp2_with fail
    refine (unhide HR).mono ?_
    rintro e w' ⟨rfl, j, rfl⟩
    have hB8 : Below w.heap.size w (w7.drewN j) := below_drewN hB7 j
    have h8 : IsEds (w7.drewN j) (· < (w7.drewN j).heap.size) a2 k.length k := h6
    clear hB7 h6 HR
    generalize w7.drewN j = w8 at hB8 h8 ⊢
    go_wp2_with fail
    have HR := refRight_any a2 k.length c2 k s.size w8 h8
    by_cases hr : rightB k s.size = true
    · have hok : okGo s.size (-1) 0 k = true := by
        have h' : (decide (k.length ≤ 1000) && okGo s.size (-1) 0 k) = true := hr
        simp at h'; exact h'.2
      rw [show (decide (k.length ≤ 1000) && okGo s.size (-1) 0 k) = true from hr] at HR
      have hsml : ∀ e ∈ k, e.small := fun e he => ⟨(hlo e he).1, (hlo e he).2.1, by have := (hlo e he).2.2; omega, by have := hsm.2 e he; omega⟩
      have hl10 := hsm.1
      have hsh : ∀ p : Int, progShift p p (fromL 0 k) = shiftGo p 0 k := fun p => by
        have h1 := progShift_eq (p := p) 0 hok
        rw [Int.add_zero] at h1
        exact h1
      have HP := hide (fun (p : Int) (hp : -1000 ≤ p ∧ p ≤ 1000) W hI => by
        have h1 := shift_any a2 k.length c2 k p W hI (by omega) hsml (by omega) (by omega)
        rw [hsh] at h1
        exact h1)
      have HF := hide (fun (p : Int) (hp : -1000 ≤ p ∧ p ≤ 1000) W hI => refShift_any a2 k.length c2 k p W hI (by omega) hsml (by omega) (by omega))
      have e1 : -1000 ≤ kk ∧ kk ≤ 1000 := by omega
      have e2 : -1000 ≤ X ∧ X ≤ 1000 := by omega
      refine HR.mono ?_
      rintro e w' ⟨rfl, j, rfl⟩
      have hB9 : Below w.heap.size w (w8.drewN j) := below_drewN hB8 j
      have h9 : IsEds (w8.drewN j) (· < (w8.drewN j).heap.size) a2 k.length k := h8
      clear hB8 h8 HR hsml hsh hok hr hlo hsm
      generalize w8.drewN j = w9 at hB9 h9 ⊢
      go_wp2_with fail
      refine ((unhide HP) kk e1 w9 h9).mono ?_
      rintro e w10 ⟨rfl, hb10⟩
      have hB10 := hB9.trans (hb10.mono hB9.size)
      replace h9 := h9.on hb10
      clear hb10 hB9
      go_wp2_with fail
      refine ((unhide HF) kk e1 w10 h9).mono ?_
      rintro e w' ⟨rfl, j, rfl⟩
      have hB11 : Below w.heap.size w (w10.drewN j) := below_drewN hB10 j
      have h11 : IsEds (w10.drewN j) (· < (w10.drewN j).heap.size) a2 k.length k := h9
      clear hB10 h9
      generalize w10.drewN j = w11 at hB11 h11 ⊢
      go_wp2_with fail
      refine ((unhide HP) X e2 w11 h11).mono ?_
      rintro e w12 ⟨rfl, hb12⟩
      have hB12 := hB11.trans (hb12.mono hB11.size)
      replace h11 := h11.on hb12
      clear hb12 hB11
      go_wp2_with fail
      refine ((unhide HF) X e2 w12 h11).mono ?_
      rintro e w' ⟨rfl, j, rfl⟩
      go_wp2_with fail
      go_ret
      exact ⟨rfl, below_drewN hB12 j⟩
    · rw [show (decide (k.length ≤ 1000) && okGo s.size (-1) 0 k) = false from (show rightB k s.size = false by simpa using hr)] at HR
      refine HR.mono ?_
      rintro e w' ⟨rfl, j, rfl⟩
      go_wp2_with fail
      go_ret
      exact ⟨rfl, below_drewN hB8 j⟩
end Go.Proofs.Ytfncmabjmlmcfaa
