/-
  The walk of edit.Apply: what edits make of a text.
  Its conditions: the slice reads as edits; where they may be made: the text and their texts have at most 1000000 bytes each.
-/
import Derived.Test.YtfncmabjmlmcfaaBuild
import Derived.Test.YtfncmabjmlmcfaaRefApply
import Derived.Test.YtfncmabjmlmcfaaRight
namespace Go.Proofs.Ytfncmabjmlmcfaa
open Go.RowKit Go.Shelf

theorem Blk.others {w w' : World} {g b : Nat} {t : TypeId} {cs : Array Value} (h : Blk w g t cs) (hk : Lib.OthersKept 5 (some b) w w') (hg : g ≠ b) (ht : t ≠ 5) : Blk w' g t cs :=
  hk g _ h (fun e => hg (Option.some.inj e)) (fun c fz e => by injection e with _ e2; exact ht e2)

theorem builder_alloc {B b : Nat} {bs : List Value} {w : World} (h : Lib.IsBuilderF 50 5 B b bs w) (o : Obj) : Lib.IsBuilderF 50 5 B b bs (w.alloc o) := by
  rcases h with ⟨hB, v, hb, ho, hn⟩ | ⟨hB, v, hb, ho, hn⟩
  · exact .inl ⟨hB, v, (Below.heap_alloc w o b (Array.getElem?_eq_some_iff.1 hb).1).trans hb, ho.alloc o, hn⟩
  · exact .inr ⟨hB, v, (Below.heap_alloc w o b (Array.getElem?_eq_some_iff.1 hb).1).trans hb, ho.alloc o, hn⟩

theorem builder_far {B b g : Nat} {bs : List Value} {w : World} {t : TypeId} {cs : Array Value} (h : Lib.IsBuilderF 50 5 B b bs w) (hg : Blk w g t cs) (hb : g ≠ b) (ht : t ≠ 5) (i : Nat) (u : Value) : Lib.IsBuilderF 50 5 B b bs (w.setCell ⟨g, i, none⟩ u) := by
  have key : ∀ p, Lib.BuilderAtF 50 5 B b p bs w → Lib.BuilderAtF 50 5 B b p bs (w.setCell ⟨g, i, none⟩ u) := by
    rintro p ⟨hB, v, hbk, ho, hn⟩
    refine ⟨hB, v, (Below.heap_setCell w ⟨g, i, none⟩ u b (fun e => hb e.symm)).trans hbk, ?_, hn⟩
    refine ho.kept (row := some g) ⟨rfl, rfl, rfl, by simp [World.setCell], fun k _ hk => Below.heap_setCell _ _ _ _ (fun e => hk (by simp [e]))⟩ (Or.inr ?_)
    intro he
    obtain ⟨c, fz, hc⟩ := Lib.ownsRowF_kind ho g he
    unfold Blk at hg
    rw [hc] at hg
    injection hg with hg
    injection hg with _ e2
    exact ht e2.symm
  exact h.elim (fun x => .inl (key _ x)) (fun x => .inr (key _ x))

theorem up_any (B b gs ga : Nat) (bs : List Value) (s : ByteArray) (q r : Nat) (w : World) (h : Lib.IsBuilderF 50 5 B b bs w) (hs : Blk w gs 9 #[.string s]) (ha : Blk w ga 3 #[.int .i64 q]) (hq : q ≤ r) (hr : r ≤ s.size) (hsz : s.size ≤ 1000000) (hlen : bs.length ≤ 10000000000) (hBw : B ≤ w.heap.size) :
    Calls Try.prog 25 #[.int .i64 r, .pointer (some ⟨b, 0, none⟩), .pointer (some ⟨gs, 0, none⟩), .pointer (some ⟨ga, 0, none⟩)] w fun e w' => e = .returned (.tuple #[]) ∧ (Lib.IsBuilderF 50 5 B b (bs ++ Lib.strCells (s.extract q r)) w' ∧ Below B w w' ∧ Lib.OthersKept 5 (some b) w w') := by
  obtain ⟨s0, s1⟩ := hs.one
  obtain ⟨a0, a1⟩ := ha.one
  have hx : (s.extract q r).size ≤ 1000000 := by rw [ByteArray.size_extract]; omega
  have HC := hide (write_any B b bs (s.extract q r) w h (by omega) hBw)
  go_enter Try.func25, Try.ntmps25
  go_wp2_with fail
  refine (unhide HC).mono ?_
  rintro e w1 ⟨rfl, h1, h2, h3⟩
  go_wp2_with fail
  go_end0
  exact ⟨rfl, h1, h2, h3⟩

set_option maxHeartbeats 1000000 in
theorem apply_yes (s : ByteArray) (a : Option Addr) (m cap : Nat) (l : List Ed) (w : World) (hI : IsEds w (· < w.heap.size) a m l) (hr : rightB l s.size = true) (hsz : s.size ≤ 1000000) (ht : ∀ e ∈ l, e.text.size ≤ 1000000) :
    Calls Try.prog 17 #[.string s, .slice a m cap] w fun e w' => e = .returned (.tuple #[.string (applyB s l), .int .u16 0]) ∧ Below w.heap.size w w' := by
  have hml : m = l.length := hI.1
  subst hml
  have hr1 : (decide (l.length ≤ 1000) && okGo s.size (-1) 0 l) = true := hr
  have hl : l.length ≤ 1000 := by simp at hr1; exact hr1.1
  have hok : okGo s.size (-1) 0 l = true := by simp at hr1; exact hr1.2
  have hI0 : IsEds (w.alloc (.cells #[.string s] 9)) (· < (w.alloc (.cells #[.string s] 9)).heap.size) a l.length l := hI.keep fun b hb => ⟨by simp; omega, Below.heap_alloc w _ b hb⟩
  have HC := right_any a l.length cap l s.size _ hI0
  rw [hr1] at HC
  have H2 := hide hok
  clear hr hr1 hok
  have HC := hide HC
  go_enter Try.func17, Try.ntmps17
  go_wp2_with fail
  refine (unhide HC).mono ?_
  clear HC
  rintro e w1 ⟨rfl, hb1⟩
  have hsz1 := hb1.size
  simp at hsz1
  have g1 : Blk w1 w.heap.size 9 #[.string s] := (Blk.new w 9 #[.string s]).below hb1 (by simp)
  have hI1 : IsEds w1 (· < w1.heap.size) a l.length l := hI0.keep fun b hb => ⟨by simp at hb; omega, hb1.block b (by simpa using hb)⟩
  have hB0 : Below w.heap.size w w1 := ((Below.refl _ w).alloc (Nat.le_refl _) _).trans (hb1.mono (by simp))
  have hB1 := Lib.IsBuilderF.of (Lib.fresh_isBuilder 50 5 w1)
  go_wp2_with fail
  have hgA : Blk ((w1.alloc (.cells #[.pointer none, .slice none 0 0] 50)).alloc (.cells #[.int .i64 0] 3)) (w1.heap.size + 1) 3 #[.int .i64 ((0 : Nat) : Int)] := by
    have := Blk.new (w1.alloc (.cells #[.pointer none, .slice none 0 0] 50)) 3 #[.int .i64 0]
    simpa using this
  have hbA := builder_alloc hB1 (.cells #[.int .i64 0] 3)
  have hBA : Below w1.heap.size w1 ((w1.alloc (.cells #[.pointer none, .slice none 0 0] 50)).alloc (.cells #[.int .i64 0] 3)) := ((Below.refl _ w1).alloc (Nat.le_refl _) _).alloc (by simp) _
  clear hb1 hI0 HC
  go_loopw [19] (fun i wr => ∃ (k q : Nat) (out : ByteArray) (la : Int), k ≤ l.length ∧ i = .int .i64 k ∧ q ≤ s.size ∧ out.size ≤ q + 1000000 * k ∧ okGo s.size la q (l.drop k) = true ∧ applyB s l = applyGo s q out (l.drop k) ∧ Lib.IsBuilderF 50 5 w1.heap.size w1.heap.size (Lib.strCells out) wr ∧ Blk wr (w1.heap.size + 1) 3 #[.int .i64 q] ∧ Below w1.heap.size w1 wr ∧ w1.heap.size + 2 ≤ wr.heap.size) (fun i _ => l.length - (intOf i).toNat)
  case atStart => exact ⟨0, 0, ByteArray.empty, -1, Nat.zero_le _, rfl, Nat.zero_le _, by simp, H2.out, rfl, hbA, hgA, hBA, by simp⟩
  case round =>
    obtain ⟨k, q, out, la, hk, rfl, hq, hout, hok, hgo, hbr, hga, hbel, hsr⟩ := hrel
    have HG := hide hgo
    clear hgo hbA hgA hBA hB1
    by_cases hlt : k < l.length
    · obtain ⟨b, o, rfl, hF, ⟨p0, p1, p2⟩, _⟩ := (hI1.below hbel).get hlt
      have ht1 := ht _ (List.getElem_mem hlt)
      rw [List.drop_eq_getElem_cons hlt] at hok
      obtain ⟨o1, o2, o3, o4, o5, o6⟩ := okGo_cons hok
      have HO := hide o6
      have HS := hide (show ∀ p out, applyGo s p out (l.drop k) = applyGo s l[k].hi.toNat ((out ++ s.extract p l[k].lo.toNat) ++ l[k].text) (l.drop (k + 1)) from fun p out => by rw [List.drop_eq_getElem_cons hlt]; rfl)
      clear hok o6
      obtain ⟨x, hx⟩ : ∃ x, x = l[k] := ⟨_, rfl⟩
      rw [← hx] at p0 p1 p2 ht1 o1 o2 o3 o4 o5 HO HS
      clear hx
      obtain ⟨lo, hi, tx⟩ := x
      dsimp only at p0 p1 p2 ht1 o1 o2 o3 o4 o5 HO HS
      obtain ⟨lo, rfl⟩ := Int.eq_ofNat_of_zero_le o1
      obtain ⟨hi, rfl⟩ := Int.eq_ofNat_of_zero_le (show 0 ≤ hi by omega)
      have u1 : q ≤ lo := by omega
      have u2 : lo ≤ s.size := by omega
      -- the round's box
      obtain ⟨wa, hwa⟩ : ∃ wa, wr.alloc (.cells #[.int .i64 lo, .int .i64 hi, .string tx] 36) = wa := ⟨_, rfl⟩
      have ge : Blk wa wr.heap.size 36 #[.int .i64 lo, .int .i64 hi, .string tx] := hwa ▸ Blk.new wr 36 _
      have gs : Blk wa w.heap.size 9 #[.string s] := hwa ▸ (g1.below hbel (by omega)).alloc _
      have ga : Blk wa (w1.heap.size + 1) 3 #[.int .i64 q] := hwa ▸ hga.alloc _
      have hba : Lib.IsBuilderF 50 5 w1.heap.size w1.heap.size (Lib.strCells out) wa := hwa ▸ builder_alloc hbr _
      have hza : wa.heap.size = wr.heap.size + 1 := by rw [← hwa]; simp
      have hbw : Below w1.heap.size w1 wa := hwa ▸ hbel.alloc (by omega) _
      obtain ⟨e0, e1, e2, f0, f1, f2⟩ := ge.three
      have HC1 := hide (up_any w1.heap.size w1.heap.size w.heap.size (w1.heap.size + 1) (Lib.strCells out) s q lo wa hba gs ga u1 u2 hsz (by rw [Lib.strCells_length]; omega) (by omega))
      go_wp2_with fail
      refine (unhide HC1).mono ?_
      clear HC1
      rintro e wb ⟨rfl, hb2, hbel2, hoth2⟩
      have gs2 := gs.others hoth2 (by omega) (by decide)
      have ga2 := ga.others hoth2 (by omega) (by decide)
      have ge2 := ge.others hoth2 (by omega) (by decide)
      have hz2 := hbel2.size
      have hbB := hbw.trans hbel2
      have hx : (s.extract q lo).size ≤ lo - q := by rw [ByteArray.size_extract]; omega
      have HC2 := hide (write_any w1.heap.size w1.heap.size _ tx wb hb2 (by rw [List.length_append, Lib.strCells_length, Lib.strCells_length]; omega) (by omega))
      clear e0 e1 e2 f0 f1 f2 hwa gs ga ge hba hbw hbel2 hoth2
      obtain ⟨e0, e1, e2, f0, f1, f2⟩ := ge2.three
      go_wp2_with fail
      refine (unhide HC2).mono ?_
      clear HC2
      rintro e wc ⟨rfl, hb3, hbel3, hoth3⟩
      have gs3 := gs2.others hoth3 (by omega) (by decide)
      have ga3 := ga2.others hoth3 (by omega) (by decide)
      have ge3 := ge2.others hoth3 (by omega) (by decide)
      have hz3 := hbel3.size
      have hbC := hbB.trans hbel3
      clear e0 e1 e2 f0 f1 f2 gs2 ga2 ge2
      obtain ⟨e0, e1, e2, f0, f1, f2⟩ := ge3.three
      obtain ⟨a0, a1⟩ := ga3.one
      go_wp2_with fail
      go_roundw
      case rel =>
        refine ⟨k + 1, hi, (out ++ s.extract q lo) ++ tx, lo, by omega, by go_num, by omega, ?_, HO.out, ?_, ?_, ?_, hbC.setCell (by simp) _, by simp; omega⟩
        · simp only [ByteArray.size_append, ByteArray.size_extract]; omega
        · rw [HG.out, HS.out]; simp
        · have : Lib.strCells ((out ++ s.extract q lo) ++ tx) = (Lib.strCells out ++ Lib.strCells (s.extract q lo)) ++ Lib.strCells tx := by
            simp [Lib.strCells]
          rw [this]
          exact builder_far hb3 ga3 (by omega) (by decide) 0 _
        · exact (ga3.set_ 0 _).eq_ (by simp)
      case measure => simp [intOf]; omega
    · have gs := g1.below hbel (by omega)
      have hx : (s.extract q s.size).size ≤ 1000000 := by rw [ByteArray.size_extract]; omega
      have HC1 := hide (up_any w1.heap.size w1.heap.size w.heap.size (w1.heap.size + 1) (Lib.strCells out) s q s.size wr hbr gs hga hq (Nat.le_refl _) hsz (by rw [Lib.strCells_length]; omega) (by omega))
      obtain ⟨s0, s1⟩ := gs.one
      go_wp2_with fail
      refine (unhide HC1).mono ?_
      clear HC1
      rintro e wb ⟨rfl, hb2, hbel2, hoth2⟩
      have hz2 := hbel2.size
      have hbB := hbel.trans hbel2
      have hE : Lib.strCells out ++ Lib.strCells (s.extract q s.size) = Lib.byteCells (out ++ s.extract q s.size).data.toList := by
        rw [← Lib.strCells_eq]; simp [Lib.strCells]
      rw [hE] at hb2
      have hfin : applyB s l = out ++ s.extract q s.size := by rw [HG.out, List.drop_eq_nil_of_le (by omega)]; rfl
      obtain ⟨z, hz⟩ : ∃ z, z = out ++ s.extract q s.size := ⟨_, rfl⟩
      rw [← hz] at hb2 hfin
      clear hz hE
      have HF := hide hfin
      clear hfin
      have HC2 := hide (string_any w1.heap.size w1.heap.size _ wb hb2 (by omega))
      go_wp2_with fail
      refine (unhide HC2).mono ?_
      rintro e wc ⟨rfl, _, hbel3, _⟩
      go_wp2_with fail
      go_ret2
      refine ⟨by rw [HF.out]; rfl, hB0.trans ((hbB.trans hbel3).mono (by omega))⟩

set_option maxHeartbeats 400000 in
theorem apply_no (s : ByteArray) (a : Option Addr) (m cap : Nat) (l : List Ed) (w : World) (hI : IsEds w (· < w.heap.size) a m l) (hr : rightB l s.size = false) (hsz : s.size ≤ maxLen) :
    Calls Try.prog 17 #[.string s, .slice a m cap] w fun e w' => e = .returned (.tuple #[.string ByteArray.empty, .int .u16 1]) ∧ Below w.heap.size w w' := by
  have hr1 : (decide (l.length ≤ 1000) && okGo s.size (-1) 0 l) = false := hr
  have hI0 : IsEds (w.alloc (.cells #[.string s] 9)) (· < (w.alloc (.cells #[.string s] 9)).heap.size) a m l := hI.keep fun b hb => ⟨by simp; omega, Below.heap_alloc w _ b hb⟩
  have HC := right_any a m cap l s.size _ hI0
  rw [hr1] at HC
  have HC2 := hide HC
  clear HC hr hr1
  go_enter Try.func17, Try.ntmps17
  go_wp2_with fail
  refine (unhide HC2).mono ?_
  rintro e w1 ⟨rfl, hb1⟩
  go_wp2_with fail
  go_ret2
  exact ⟨rfl, ((Below.refl _ w).alloc (Nat.le_refl _) _).trans (hb1.mono (by simp))⟩
end Go.Proofs.Ytfncmabjmlmcfaa
