/-
  The walk of EditBack: it gives true; and the plain law: what was made is undone.
  Its conditions: the text has at most 140737488351232 bytes; the slice reads as bytes.
-/
import Derived.Test.YtfncmabjmlmcfaaDiffW
import Derived.Test.YtfncmabjmlmcfaaBack
namespace Go.Proofs.Ytfncmabjmlmcfaa
open Go.RowKit Go.Shelf Go.WideShapes

theorem ext_mid (a b c : ByteArray) (i j : Nat) (hi : i = a.size) (hj : j = a.size + b.size) : ((a ++ b) ++ c).extract i j = b := by
  subst hi hj
  refine bytes_inj ?_
  rw [ext_data, app_data, app_data, show a.size = a.data.toList.length by simp, List.append_assoc, List.drop_left, show a.data.toList.length + b.size - a.data.toList.length = b.data.toList.length by simp, List.take_left]
theorem ext_glue (s : ByteArray) {i j k : Nat} (h1 : i ≤ j) (h2 : j ≤ k) : s.extract i j ++ s.extract j k = s.extract i k := by
  refine bytes_inj ?_
  rw [app_data, ext_data, ext_data, ext_data]
  rw [show k - i = (j - i) + (k - j) by omega, List.take_add, List.drop_drop, show i + (j - i) = j by omega]
theorem pre_again (s : ByteArray) : ∀ (l : List Ed) (p : Nat) (out : ByteArray), ∃ r, applyGo s p out l = out ++ r
  | [], p, out => ⟨_, rfl⟩
  | e :: r, p, out => by
    obtain ⟨x, hx⟩ := pre_again s r e.hi.toNat ((out ++ s.extract p e.lo.toNat) ++ e.text)
    exact ⟨s.extract p e.lo.toNat ++ (e.text ++ x), by rw [applyGo, hx]; simp [ByteArray.append_assoc]⟩

theorem undo_go (s t : ByteArray) : ∀ (l : List Ed) (la : Int) (p : Nat) (out : ByteArray) (M : Int), okGo s.size la p l = true → p ≤ s.size → (out.size : Int) = p + M → t = applyGo s p out l →
    applyGo t out.size (s.extract 0 p) (backGo s M l) = s ∧ backGo t (-M) (backGo s M l) = l
  | [], la, p, out, M, _, hp, ho, ht => by
    refine ⟨?_, rfl⟩
    rw [applyGo] at ht
    simp only [backGo, applyGo]
    rw [ht]
    have h1 := ext_mid out (s.extract p s.size) ByteArray.empty out.size (out ++ s.extract p s.size).size rfl ByteArray.size_append
    rw [ByteArray.append_empty] at h1
    rw [h1, ext_glue s (Nat.zero_le _) hp]
    simp
  | e :: r, la, p, out, M, h, hp, ho, ht => by
    obtain ⟨o1, o2, o3, o4, o5, o6⟩ := okGo_cons h
    obtain ⟨lo, hi, tx⟩ := e
    dsimp only at o1 o2 o3 o4 o5 o6
    obtain ⟨lo, rfl⟩ := Int.eq_ofNat_of_zero_le o1
    obtain ⟨hi, rfl⟩ := Int.eq_ofNat_of_zero_le (show 0 ≤ hi by omega)
    have hM' : M + moreE ⟨(lo : Int), (hi : Int), tx⟩ = M + ((tx.size : Int) - ((hi : Int) - (lo : Int))) := rfl
    have hx1 : (s.extract p lo).size = lo - p := by rw [ByteArray.size_extract]; omega
    have hx2 : (s.extract lo hi).size = hi - lo := by rw [ByteArray.size_extract]; omega
    have hsz : (((out ++ s.extract p lo) ++ tx).size : Int) = (hi : Int) + (M + moreE ⟨(lo : Int), (hi : Int), tx⟩) := by
      rw [ByteArray.size_append, ByteArray.size_append, hx1, hM']
      omega
    have ht' : t = applyGo s hi ((out ++ s.extract p lo) ++ tx) r := by rw [ht]; rfl
    obtain ⟨i1, i2⟩ := undo_go s t r lo hi ((out ++ s.extract p lo) ++ tx) _ o6 (by omega) hsz ht'
    obtain ⟨x, hx⟩ := pre_again s r hi ((out ++ s.extract p lo) ++ tx)
    rw [hx] at ht'
    have e1 : t.extract out.size ((lo : Int) + M).toNat = s.extract p lo := by
      rw [ht', ByteArray.append_assoc]
      exact ext_mid _ _ _ _ _ rfl (by rw [hx1]; omega)
    have e2 : t.extract ((lo : Int) + M).toNat ((lo : Int) + M + tx.size).toNat = tx := by
      rw [ht']
      exact ext_mid _ _ _ _ _ (by rw [ByteArray.size_append, hx1]; omega) (by rw [ByteArray.size_append, hx1]; omega)
    have e3 : ((lo : Int) + M + tx.size).toNat = ((out ++ s.extract p lo) ++ tx).size := by
      rw [ByteArray.size_append, ByteArray.size_append, hx1]; omega
    refine ⟨?_, ?_⟩
    · simp only [backGo, applyGo]
      rw [e1, ext_glue s (Nat.zero_le _) (by omega)]
      simp only [Int.toNat_natCast]
      rw [ext_glue s (Nat.zero_le _) (by omega), e3]
      exact i1
    · simp only [backGo]
      rw [e2]
      simp only [Int.toNat_natCast]
      rw [hx2]
      have h1 : -M + moreE ⟨(lo : Int) + M, (lo : Int) + M + tx.size, s.extract lo hi⟩ = -(M + moreE ⟨(lo : Int), (hi : Int), tx⟩) := by
        rw [hM']
        simp only [moreE]
        rw [hx2]
        omega
      rw [h1, i2]
      congr 2 <;> omega

theorem undo_law (s : ByteArray) (l : List Ed) (h : rightB l s.size = true) : applyB (applyB s l) (backGo s 0 l) = s ∧ backGo (applyB s l) 0 (backGo s 0 l) = l := by
  have hok : okGo s.size (-1) 0 l = true := by
    have h' : (decide (l.length ≤ 1000) && okGo s.size (-1) 0 l) = true := h
    simp at h'; exact h'.2
  have := undo_go s (applyB s l) l (-1) 0 ByteArray.empty 0 hok (Nat.zero_le _) rfl rfl
  refine ⟨?_, this.2⟩
  have h1 := this.1
  rw [show s.extract 0 0 = ByteArray.empty from bytes_inj (by rw [ext_data]; simp)] at h1
  exact h1
theorem backGo_len (s : ByteArray) : ∀ (l : List Ed) (M : Int), (backGo s M l).length = l.length ∧ ∀ e ∈ backGo s M l, e.text.size ≤ s.size
  | [], M => by simp [backGo]
  | e :: r, M => by
    have ih := backGo_len s r (M + moreE e)
    refine ⟨by simp only [backGo, List.length_cons, ih.1], ?_⟩
    intro x hx
    rw [backGo] at hx
    rcases List.mem_cons.1 hx with rfl | hx
    · simp only [ByteArray.size_extract]; omega
    · exact ih.2 x hx

set_option maxHeartbeats 4000000 in
theorem undo_any (s : ByteArray) (a : Option Addr) (m cap : Nat) (c : List Int) (w : World) (hs : s.size ≤ 140737488351232) (hI : IsBytes w (· < w.heap.size) a m c) :
    Calls Try.prog 7 #[.string s, .slice a m cap] w fun e w' => e = .returned (.bool true) ∧ Below w.heap.size w w' := by
  by_cases hbig : 200 < s.size
  · go_enter Try.func7, Try.ntmps7
    go_wp2_with fail
    refine (known_any w).mono ?_
    rintro e w1 ⟨rfl, hb⟩
    go_wp2_with fail
    go_ret
    exact ⟨rfl, hb⟩
  have hsm := edsL_small s.size 10 0 c
  have HE := hide (edits_any a m cap c s.size w hI)
  obtain ⟨l, hl⟩ : ∃ l, l = edsL s.size 10 0 c := ⟨_, rfl⟩
  rw [← hl] at hsm HE
  clear hl hI
  have hl10 := hsm.1
  go_enter Try.func7, Try.ntmps7
  go_wp2_with fail
  refine (unhide HE).mono ?_
  clear HE
  rintro e w1 ⟨a1, n1, c1, rfl, h1, hb1⟩
  have hn1 : n1 = l.length := h1.1
  subst hn1
  replace h1 := h1.lt_
  go_wp2_with fail
  refine (right_any a1 l.length c1 l s.size w1 h1).mono ?_
  rintro e w2 ⟨rfl, hb2⟩
  have hB2 := hb1.trans (hb2.mono hb1.size)
  replace h1 := h1.on hb2
  by_cases hr : rightB l s.size = true
  · rw [show (decide (l.length ≤ 1000) && okGo s.size (-1) 0 l) = true from hr]
    obtain ⟨u1, u2⟩ := undo_law s l hr
    have hlen := backGo_len s l 0
    have htx : ∀ e ∈ l, e.text.size ≤ 1000000 := fun e he => by have := hsm.2 e he; omega
    have hzs : (applyB s l).size ≤ 4000 := by
      have h1 := applyGo_size s l 0 ByteArray.empty hsm.2
      have h2 : (l.length + 1) * (s.size + 4) ≤ 11 * 204 := Nat.mul_le_mul (by omega) (by omega)
      have h3 : ByteArray.empty.size = 0 := rfl
      unfold applyB
      omega
    have HA := hide (fun W hI => apply_yes s a1 l.length c1 l W hI hr (by omega) htx)
    have HB := hide (fun W hI => back_yes s a1 l.length c1 l W hI hr (by omega) htx)
    obtain ⟨t, ht⟩ : ∃ t, t = applyB s l := ⟨_, rfl⟩
    obtain ⟨k, hk⟩ : ∃ k, k = backGo s 0 l := ⟨_, rfl⟩
    rw [← ht, ← hk] at u1 u2
    rw [← ht] at HA hzs
    rw [← hk] at HB hlen
    clear ht hk
    have HK := hide hlen.1
    have hktx : ∀ e ∈ k, e.text.size ≤ 1000000 := fun e he => by have := hlen.2 e he; omega
    have U1 := hide u1
    have U2 := hide u2
    clear u1 u2 hr htx hlen hb1 hb2
    go_wp2_with fail
    refine ((unhide HA) w2 h1).mono ?_
    rintro e w3 ⟨rfl, hb3⟩
    have hB3 := hB2.trans (hb3.mono hB2.size)
    replace h1 := h1.on hb3
    clear HA hb3 hB2
    go_wp2_with fail
    refine ((unhide HB) w3 h1).mono ?_
    rintro e w4 ⟨a4, n4, c4, rfl, h4, hb4⟩
    have hn4 : n4 = k.length := h4.1
    subst hn4
    have hB4 := hB3.trans (hb4.mono hB3.size)
    replace h1 := h1.on hb4
    replace h4 := h4.lt_
    clear HB hb4 hB3
    go_wp2_with fail
    by_cases hm : rightB k t.size = true
    · refine (apply_yes t a4 k.length c4 k w4 h4 hm (by omega) hktx).mono ?_
      rintro e w5 ⟨rfl, hb5⟩
      rw [U1.out]
      have hB5 := hB4.trans (hb5.mono hB4.size)
      replace h1 := h1.on hb5
      replace h4 := h4.on hb5
      clear hb5 hB4
      go_wp2_with fail
      refine (back_yes t a4 k.length c4 k w5 h4 hm (by omega) hktx).mono ?_
      rw [U2.out]
      rintro e w6 ⟨a6, n6, c6, rfl, h6, hb6⟩
      have hB6 := hB5.trans (hb6.mono hB5.size)
      replace h1 := h1.on hb6
      replace h4 := h4.on hb6
      replace h6 := h6.lt_
      clear hb6 hB5
      go_wp2_with fail
      refine (known_any w6).mono ?_
      rintro e w7 ⟨rfl, hb7⟩
      have hB7 := hB6.trans (hb7.mono hB6.size)
      replace h1 := h1.on hb7
      replace h4 := h4.on hb7
      replace h6 := h6.on hb7
      clear hb7 hB6
      go_wp2_with fail
      have HR := right_any a4 k.length c4 k t.size w7 h4
      rw [show (decide (k.length ≤ 1000) && okGo t.size (-1) 0 k) = true from hm] at HR
      refine HR.mono ?_
      rintro e w8 ⟨rfl, hb8⟩
      have hB8 := hB7.trans (hb8.mono hB7.size)
      replace h1 := h1.on hb8
      replace h6 := h6.on hb8
      clear hb8 hB7 HR h4
      go_wp2_with fail
      refine (same_yes a6 a1 n6 l.length c6 c1 l w8 h6 h1).mono ?_
      rintro e w9 ⟨rfl, j, rfl⟩
      go_wp2_with fail
      go_ret
      exact ⟨by simp [HK.out], below_drewN hB8 j⟩
    · have hm' : rightB k t.size = false := by simpa using hm
      refine (apply_no t a4 k.length c4 k w4 h4 hm' (by simp only [maxLen]; omega)).mono ?_
      rintro e w5 ⟨rfl, hb5⟩
      have hB5 := hB4.trans (hb5.mono hB4.size)
      replace h4 := h4.on hb5
      clear hb5 hB4 h1
      go_wp2_with fail
      refine (back_no t a4 k.length c4 k w5 h4 hm').mono ?_
      rintro e w6 ⟨a6, n6, c6, rfl, h6, hb6⟩
      have hB6 := hB5.trans (hb6.mono hB5.size)
      replace h4 := h4.on hb6
      clear hb6 hB5 h6
      go_wp2_with fail
      refine (known_any w6).mono ?_
      rintro e w7 ⟨rfl, hb7⟩
      have hB7 := hB6.trans (hb7.mono hB6.size)
      replace h4 := h4.on hb7
      clear hb7 hB6
      go_wp2_with fail
      have HR := right_any a4 k.length c4 k t.size w7 h4
      rw [show (decide (k.length ≤ 1000) && okGo t.size (-1) 0 k) = false from hm'] at HR
      refine HR.mono ?_
      rintro e w8 ⟨rfl, hb8⟩
      have hB8 := hB7.trans (hb8.mono hB7.size)
      clear hb8 hB7 HR h4
      go_wp2_with fail
      go_ret
      exact ⟨by simp [HK.out], hB8⟩
  · rw [show (decide (l.length ≤ 1000) && okGo s.size (-1) 0 l) = false from (show rightB l s.size = false by simpa using hr)]
    go_wp2_with fail
    refine (known_any w2).mono ?_
    rintro e w3 ⟨rfl, hb3⟩
    go_wp2_with fail
    go_ret
    exact ⟨rfl, hB2.trans (hb3.mono hB2.size)⟩
end Go.Proofs.Ytfncmabjmlmcfaa
