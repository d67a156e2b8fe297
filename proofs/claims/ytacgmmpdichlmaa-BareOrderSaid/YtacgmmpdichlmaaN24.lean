/-
  The reference's plain at a bracket, and at a digit alone: exactly. Its condition: a text has at most 65536 bytes.
  The lexer's value in memory: its row of tokens, its row of numbers; what a step keeps. No condition.
-/
import Derived.Test.YtacgmmpdichlmaaN22
import Derived.Test.YtacgmmpdichlmaaN00
import Derived.Lib.OthersKept
namespace Go.Proofs.Ytacgmmpdichlmaa
open Go.RowKit

theorem word_zero (s : ByteArray) (w : World) (hs : s.size ≤ 65536) (h0 : 0 < s.size) (hl : letterB s[0].toNat = false) : Calls Try.prog 65 #[.string s] w fun e w' => e = .returned (.int .i64 0) ∧ Below w.heap.size w w' :=
  (word_any s w hs).mono fun _ _ ⟨⟨n, h1, h2⟩, h3⟩ => by
    subst h3
    rcases Nat.eq_zero_or_pos n with rfl | hn
    · exact ⟨h1, Below.refl _ _⟩
    · obtain ⟨_, h⟩ := h2.2 hn
      rw [hl] at h; cases h
theorem plain_opn (s : ByteArray) (w : World) (hs : s.size ≤ 65536) (h0 : 0 < s.size) (hb : s[0] = 40 ∨ s[0] = 41) : Calls Try.prog 52 #[.string s] w fun e w' => e = .returned (.agg #[.int .i64 13, .string (s.extract 0 1)]) ∧ Below w.heap.size w w' := by
  obtain ⟨c, hc, hc1⟩ : ∃ c : Nat, s[0].toNat = c ∧ (c = 40 ∨ c = 41) := ⟨_, rfl, by rcases hb with h | h <;> rw [h] <;> simp⟩
  have HW := hide fun w => word_zero s w hs h0 (by rcases hb with h | h <;> rw [h] <;> rfl)
  have HU := hide fun w => number_none s w hs h0 (by rcases hb with h | h <;> rw [h] <;> rfl) (by rcases hb with h | h <;> rw [h] <;> decide)
  have HO := hide fun n (h : operP s n) => oper_bracket h h0 hb
  have HB := hide (show blankB c = false by rcases hc1 with h | h <;> rw [h] <;> rfl)
  have e35 : ((c : Int) == 35) = false := by simp; omega
  have e46 : ((c : Int) == 46) = false := by simp; omega
  have e36 : ((c : Int) == 36) = false := by simp; omega
  have e64 : ((c : Int) == 64) = false := by simp; omega
  have e34 : ((c : Int) == 34) = false := by simp; omega
  have h1s : (1 : Int) ≤ (s.size : Int) := by omega
  clear hb hc1
  go_enter Try.func52, Try.ntmps52
  go_wp2_with fail
  refine named fun W1 hW1 => ?_
  have HS1 := onS hW1 (St.nil w).va
  clear hW1
  refine (asB (blank_any c _)).mono ?_
  rintro e w2 ⟨rfl, hb2⟩
  rw [HB.out]
  have HS2 := hide (HS1.out.call hb2)
  clear hb2 HS1
  have p0 := rD HS2
  go_wp2_with fail
  refine (HW.out _).mono ?_
  rintro e w3 ⟨rfl, hb3⟩
  have HS3 := hide (HS2.out.call hb3)
  clear hb3 HS2
  clear p0
  have p0 := rD HS3
  go_wp2_with fail
  refine (asB (HU.out _)).mono ?_
  rintro e w4 ⟨rfl, hb4⟩
  have HS4 := hide (HS3.out.call hb4)
  clear hb4 HS3
  clear p0
  have p0 := rD HS4
  go_wp2_with fail
  refine (oper_any s _ hs).mono ?_
  rintro e w5 ⟨⟨n, rfl, hn⟩, hb5⟩
  have HS5 := hide (HS4.out.call hb5)
  clear hb5 HS4
  clear p0
  have p0 := rD HS5
  obtain rfl := HO.out n hn
  clear hn
  go_wp2_with fail
  refine namedPost fun W6 hW6 => ?_
  have HS6 := onS hW6 (HS5.out.st2 0 rfl _ _)
  clear hW6 HS5
  clear p0
  exact ended_tok rfl rfl (HS6.out.get 0 rfl) ⟨rfl, HS6.out.below⟩
theorem plain_num (s : ByteArray) (w : World) (hs : s.size ≤ 65536) (h0 : 0 < s.size) (hb : s[0] = 49) (h1 : ∀ h : 1 < s.size, s[1].toNat = 41) : Calls Try.prog 52 #[.string s] w fun e w' => e = .returned (.agg #[.int .i64 6, .string (s.extract 0 1)]) ∧ Below w.heap.size w w' := by
  obtain ⟨c, hc, hc1⟩ : ∃ c : Nat, s[0].toNat = c ∧ c = 49 := ⟨_, rfl, by rw [hb]; rfl⟩
  have HW := hide fun w => word_zero s w hs h0 (by rw [hb]; rfl)
  have HU := hide fun w => number_one s w hs h0 (by rw [hb]; rfl) h1
  have HB := hide (show blankB c = false by rw [hc1]; rfl)
  have e35 : ((c : Int) == 35) = false := by simp; omega
  have e46 : ((c : Int) == 46) = false := by simp; omega
  have e36 : ((c : Int) == 36) = false := by simp; omega
  have e64 : ((c : Int) == 64) = false := by simp; omega
  have h1s : (1 : Int) ≤ (s.size : Int) := by omega
  clear hb hc1 h1
  go_enter Try.func52, Try.ntmps52
  go_wp2_with fail
  refine named fun W1 hW1 => ?_
  have HS1 := onS hW1 (St.nil w).va
  clear hW1
  refine (asB (blank_any c _)).mono ?_
  rintro e w2 ⟨rfl, hb2⟩
  rw [HB.out]
  have HS2 := hide (HS1.out.call hb2)
  clear hb2 HS1
  have p0 := rD HS2
  go_wp2_with fail
  refine (HW.out _).mono ?_
  rintro e w3 ⟨rfl, hb3⟩
  have HS3 := hide (HS2.out.call hb3)
  clear hb3 HS2
  clear p0
  have p0 := rD HS3
  go_wp2_with fail
  refine (asB (HU.out _)).mono ?_
  rintro e w4 ⟨rfl, hb4⟩
  have HS4 := hide (HS3.out.call hb4)
  clear hb4 HS3
  clear p0
  have p0 := rD HS4
  go_wp2_with fail
  refine (asB (HU.out _)).mono ?_
  rintro e w5 ⟨rfl, hb5⟩
  have HS5 := hide (HS4.out.call hb5)
  clear hb5 HS4
  clear p0
  have p0 := rD HS5
  go_wp2_with fail
  refine namedPost fun W6 hW6 => ?_
  have HS6 := onS hW6 (HS5.out.st2 0 rfl _ _)
  clear hW6 HS5
  clear p0
  exact ended_tok rfl rfl (HS6.out.get 0 rfl) ⟨rfl, HS6.out.below⟩
end Go.Proofs.Ytacgmmpdichlmaa
namespace Go.Proofs.Ytacgmmpdichlmaa
open Go.RowKit

theorem infoTok : (Try.prog.info? 58).map (fun i => (i.zero, i.size, i.bytes)) = some (some (.agg #[.int .i64 0, .string ByteArray.empty]), 2, 24) := by kernel_rfl
theorem infoInt : (Try.prog.info? 3).map (fun i => (i.zero, i.size, i.bytes)) = some (some (.int .i64 0), 1, 8) := by kernel_rfl
theorem infoStr : (Try.prog.info? 9).map (fun i => (i.zero, i.size, i.bytes)) = some (some (.string ByteArray.empty), 1, 16) := by kernel_rfl

/-- A lexer. -/
def Lxv (s : ByteArray) (p : Nat) (tv ov : Value) (inn : Bool) (e : Int) : Value := .agg #[.string s, .int .i64 p, tv, ov, .bool inn, .int .i64 e]
def tokC (t : Tk) : List Value := [.int .i64 t.kind, .string t.text]
/-- Its tokens lie in a row that is its own. -/
def TRow (B : Nat) (w : World) (v : Value) (l : List Tk) : Prop := w.ownsRow B 58 2 v l.length (l.flatMap tokC)
/-- So do its numbers. -/
def ORow (B : Nat) (w : World) (v : Value) (n : Nat) : Prop := ∃ zs : List Int, zs.length = n ∧ w.ownsRow B 3 1 v n (zs.map fun z => .int .i64 z)

/-- What a step keeps: what lay below B; all but rows of tokens. -/
structure Kt (B : Nat) (w w' : World) : Prop where
  below : Below B w w'
  others : Lib.OthersKept 58 none w w'
section
variable {B : Nat} {w W W' : World} {g : Nat} {t : TypeId} {cs : Array Value}
theorem Kt.refl (B : Nat) (w : World) : Kt B w w := ⟨Below.refl _ _, Lib.OthersKept.refl _ _ _⟩
theorem Kt.trans (h : Kt B w W) (k : Kt B W W') : Kt B w W' := ⟨h.below.trans k.below, h.others.trans k.others⟩
theorem Kt.of_below (hb : Below w.heap.size w W) (hB : B ≤ w.heap.size) : Kt B w W := ⟨hb.mono hB, fun k _o hk _ _ => (hb.block k (Array.getElem?_eq_some_iff.1 hk).1).trans hk⟩
theorem Kt.blk (h : Kt B w W) (hb : Blk w g t cs) (ht : t ≠ 58) : Blk W g t cs := h.others g _ hb (by simp) (fun c fz e => by injection e with _ e2; exact ht e2)
theorem Kt.st (h : Kt B w W) (hg : w.heap.size ≤ g) (hB : B ≤ w.heap.size) (i : Nat) (v : Value) : Kt B w (W.setCell ⟨g, i, none⟩ v) :=
  ⟨h.below.setCell (Nat.le_trans hB hg) v, fun k o hk hb ho => by
    have hlt := (Array.getElem?_eq_some_iff.1 hk).1
    exact (Below.heap_setCell W ⟨g, i, none⟩ v k (fun e => by have : k = g := e; omega)).trans (h.others k o hk hb ho)⟩
theorem Kt.al (h : Kt B w W) (hB : B ≤ w.heap.size) (o : Obj) : Kt B w (W.alloc o) := ⟨h.below.alloc (Nat.le_trans hB h.below.size) o, h.others.alloc o⟩
/-- What append does to the row of tokens. -/
theorem Kt.grown {v : Value} {n : Nat} {xs : List Value} (h : Kt B w W) (hg : W.grownBy W' v.ownBlock) (hown : W.ownsRow B 58 2 v n xs) (hB : B ≤ w.heap.size) : Kt B w W' :=
  ⟨h.below.grown hg (Nat.le_trans hB h.below.size) (fun r hr => (hown.lt r hr).1), h.others.grown hg fun g e => by
    rcases hown.2 with ⟨rfl, _⟩ | ⟨g', cap, cur, rfl, _, hh, _⟩
    · simp [Value.ownBlock] at e
    · obtain rfl : g' = g := by simpa [Value.ownBlock] using e
      exact ⟨_, _, hh⟩⟩
theorem Kt.orow {v : Value} {n : Nat} (h : Kt B w W) (ho : ORow B w v n) : ORow B W v n := by
  obtain ⟨zs, hz, ho⟩ := ho
  refine ⟨zs, hz, ho.1, ?_⟩
  rcases ho.2 with hn | ⟨g, cap, cur, hv, hb, hg, rest⟩
  · exact .inl hn
  · exact .inr ⟨g, cap, cur, hv, hb, h.blk hg (by decide), rest⟩
theorem ORow.below {v : Value} {n : Nat} (ho : ORow B w v n) (hb : Below w.heap.size w W) : ORow B W v n := by
  obtain ⟨zs, hz, ho⟩ := ho
  exact ⟨zs, hz, own_below ho hb⟩
theorem TRow.below {v : Value} {l : List Tk} (ho : TRow B w v l) (hb : Below w.heap.size w W) : TRow B W v l := own_below ho hb
theorem ORow.form {v : Value} {n : Nat} (ho : ORow B w v n) : ∃ a c, v = .slice a n c := by
  obtain ⟨zs, hz, ho⟩ := ho
  exact own_form ho
theorem TRow.form {v : Value} {l : List Tk} (ho : TRow B w v l) : ∃ a c, v = .slice a l.length c := own_form ho
end

theorem Blk.see6 {w : World} {g : Nat} {t : TypeId} {a b c d e f : Value} (h : Blk w g t #[a, b, c, d, e, f]) : w.cell? ⟨g, 0, none⟩ = some a ∧ w.cell? ⟨g, 1, none⟩ = some b ∧ w.cell? ⟨g, 2, none⟩ = some c ∧ w.cell? ⟨g, 3, none⟩ = some d ∧ w.cell? ⟨g, 4, none⟩ = some e ∧ w.cell? ⟨g, 5, none⟩ = some f ∧
    w.frozen? ⟨g, 0, none⟩ = false ∧ w.frozen? ⟨g, 1, none⟩ = false ∧ w.frozen? ⟨g, 2, none⟩ = false ∧ w.frozen? ⟨g, 3, none⟩ = false ∧ w.frozen? ⟨g, 4, none⟩ = false ∧ w.frozen? ⟨g, 5, none⟩ = false ∧ g < w.heap.size :=
  ⟨h.cell 0, h.cell 1, h.cell 2, h.cell 3, h.cell 4, h.cell 5, h.frozen 0, h.frozen 1, h.frozen 2, h.frozen 3, h.frozen 4, h.frozen 5, h.lt⟩
theorem Blk.put6 {w : World} {g : Nat} {t : TypeId} {a b c d e f : Value} (h : Blk w g t #[a, b, c, d, e, f]) (a' b' c' d' e' f' : Value) :
    Blk ((((((w.setCell ⟨g, 0, none⟩ a').setCell ⟨g, 1, none⟩ b').setCell ⟨g, 2, none⟩ c').setCell ⟨g, 3, none⟩ d').setCell ⟨g, 4, none⟩ e').setCell ⟨g, 5, none⟩ f') g t #[a', b', c', d', e', f'] :=
  (((((h.set_ 0 a').set_ 1 b').set_ 2 c').set_ 3 d').set_ 4 e').set_ 5 f'
theorem Blk.farN {w : World} {g g' : Nat} {t : TypeId} {cs : Array Value} (h : Blk w g t cs) (hne : g ≠ g') (i : Nat) (v : Value) : Blk (w.setCell ⟨g', i, none⟩ v) g t cs := h.far hne v
theorem St.cells6 {w W : World} {V : List (Nat × TypeId × Array Value)} (h : St w W V) (i : Nat) {g : Nat} {t : TypeId} {a b c d e f : Value} (hi : V[i]? = some (g, t, #[a, b, c, d, e, f])) :
    W.cell? ⟨g, 0, none⟩ = some a ∧ W.cell? ⟨g, 1, none⟩ = some b ∧ W.cell? ⟨g, 2, none⟩ = some c ∧ W.cell? ⟨g, 3, none⟩ = some d ∧ W.cell? ⟨g, 4, none⟩ = some e ∧ W.cell? ⟨g, 5, none⟩ = some f :=
  ⟨(h.get i hi).cell 0, (h.get i hi).cell 1, (h.get i hi).cell 2, (h.get i hi).cell 3, (h.get i hi).cell 4, (h.get i hi).cell 5⟩
theorem St.st6 {w W : World} {V : List (Nat × TypeId × Array Value)} (h : St w W V) (i : Nat) {g : Nat} {t : TypeId} {a b c d e f : Value} (hi : V[i]? = some (g, t, #[a, b, c, d, e, f])) (a' b' c' d' e' f' : Value) :
    St w ((((((W.setCell ⟨g, 0, none⟩ a').setCell ⟨g, 1, none⟩ b').setCell ⟨g, 2, none⟩ c').setCell ⟨g, 3, none⟩ d').setCell ⟨g, 4, none⟩ e').setCell ⟨g, 5, none⟩ f') (V.set i (g, t, #[a', b', c', d', e', f'])) := by
  have hlt := (List.getElem?_eq_some_iff.1 hi).1
  have h1 := h.st i hi 0 a'
  have h2 := h1.st i (List.getElem?_set_self hlt) 1 b'
  have h3 := h2.st i (List.getElem?_set_self (by rw [List.length_set]; exact hlt)) 2 c'
  rw [List.set_set] at h2
  rw [List.set_set, List.set_set] at h3
  have h4 := h3.st i (List.getElem?_set_self hlt) 3 d'
  rw [List.set_set] at h4
  have h5 := h4.st i (List.getElem?_set_self hlt) 4 e'
  rw [List.set_set] at h5
  have h6 := h5.st i (List.getElem?_set_self hlt) 5 f'
  rw [List.set_set] at h6
  exact h6
theorem St.kt {w W W' : World} {V : List (Nat × TypeId × Array Value)} (h : St w W V) (hk : Kt w.heap.size W W') (ht : ∀ x ∈ V, x.2.1 ≠ 58) : St w W' V :=
  ⟨h.below.trans hk.below, fun x hx => ⟨(h.vars x hx).1, hk.blk (h.vars x hx).2 (ht x hx)⟩, h.nodup⟩
theorem ended_L {fn : Func} {p : Tmp} {tmps : Array Value} {W : World} {R : Ending → World → Prop} {g : Nat} {c0 c1 c2 c3 c4 c5 : Value} (hr : fn.results = #[.cell p 74]) (hp : tmps.getD p undef = .pointer (some ⟨g, 0, none⟩)) (hb : Blk W g 74 #[c0, c1, c2, c3, c4, c5])
    (hd : R (.returned (.agg #[c0, c1, c2, c3, c4, c5])) W) : bodyPost Try.prog fn R .ret { tmps := tmps, defers := [] } W :=
  bodyPost_ret (results_cell_row hr tmps W g 74 _ (0, 0) _ hp hb Try.underlying74 rfl (by kernel_rfl)) rfl hd

theorem _root_.Go.World.ownsRow.setOther {w : World} {base n size : Nat} {e : TypeId} {v : Value} {xs : List Value} (h : w.ownsRow base e size v n xs) {g : Nat} (hne : v.ownBlock ≠ some g) (i : Nat) (u : Value) : (w.setCell ⟨g, i, none⟩ u).ownsRow base e size v n xs := ownsRow_setCell_other (a := ⟨g, i, none⟩) h hne u
theorem flatMap_snoc (l : List Tk) (t : Tk) : (l ++ [t]).flatMap tokC = l.flatMap tokC ++ [.int .i64 t.kind, .string t.text] := by simp [tokC]
set_option maxRecDepth 100000 in
set_option maxHeartbeats 2000000 in
/-- A token more. -/
theorem put_any {B p : Nat} {l : List Tk} {t : Tk} {s : ByteArray} {tv ov : Value} {inn : Bool} {e : Int} {w : World} (hT : TRow B w tv l) (hB : B ≤ w.heap.size) (hl : l.length ≤ 70000) (hp : p ≤ 65536) (ht : t.text.size ≤ 65536) (hov : ∃ a n c, ov = .slice a n c) :
    Calls Try.prog 51 #[Lxv s p tv ov inn e, .agg #[.int .i64 t.kind, .string t.text]] w fun r w' => (∃ tv', r = .returned (Lxv s (p + t.text.size : Nat) tv' ov inn e) ∧ TRow B w' tv' (l ++ [t])) ∧ Kt B w w' := by
  obtain ⟨a, c, rfl⟩ := hT.form
  obtain ⟨oa, on, oc, rfl⟩ := hov
  unfold Lxv
  go_enter Try.func51, Try.ntmps51
  go_wp2_with (refine stopAt 5 ?_)
  refine namedStop fun W1 hW1 => ?_
  have HS1 := hide (show St w W1 [(w.heap.size, 74, #[.string s, .int .i64 p, .slice a l.length c, .slice oa on oc, .bool inn, .int .i64 e]), (w.heap.size + 1, 58, #[.int .i64 t.kind, .string t.text]), (w.heap.size + 1 + 1, 74, #[.string ⟨#[]⟩, .int .i64 0, .slice none 0 0, .slice none 0 0, .bool false, .int .i64 0])] from St.onto hW1 ((((St.nil w).var 74 _ (by simp)).var 58 _ (by simp)).var 74 _ (by simp)))
  clear hW1
  have hT1 := hT.below HS1.out.below
  have hz1 := HS1.out.below.size
  have hb := Blk.new W1 58 #[.int .i64 t.kind, .string t.text]
  obtain ⟨v', w', hr, hown, hg, hblk⟩ := app_run (ty := 50) Try.underlying50 infoTok rfl (by decide) (by decide) (hT1.alloc (.cells #[.int .i64 t.kind, .string t.text] 58)) W1.heap.size 0 1 1 [.int .i64 t.kind, .string t.text] rfl (fun j u hu => by rw [Nat.zero_add, hb.cell j]; simpa using hu) (by simp [Value.oneCell']) (by omega) (by omega) (by simp; omega)
  obtain ⟨va, vc, rfl⟩ := own_form hown
  have hK : Kt B w w' := ((Kt.of_below HS1.out.below hB).al hB _).grown hg (hT1.alloc _) hB
  have hlt : ∀ g, (Value.slice a l.length c).ownBlock = some g → g < w.heap.size := fun g h => (hT.lt g h).2
  have hbx : ∀ {g t cs}, Blk W1 g t cs → w.heap.size ≤ g → Blk w' g t cs := fun h hge => (h.alloc _).grown hg (fun e => by have := hlt _ e.symm; omega)
  have HX := hide (hbx (HS1.out.get 0 rfl) (Nat.le_refl _))
  have HT := hide (hbx (HS1.out.get 1 rfl) (by omega))
  have HR := hide (hbx (HS1.out.get 2 rfl) (by omega))
  have HK := hide hK
  have HO := hide hown
  have HN := hide (show ∀ g, w.heap.size ≤ g → g < W1.heap.size → (Value.slice va (l.length + 1) vc).ownBlock ≠ some g from fun g h1 h2 e => by
    rcases hblk g e with h | h
    · have := hlt g h; omega
    · simp at h; omega)
  have p0 := (HS1.out.get 0 rfl).see6
  have p1 := (HS1.out.get 1 rfl).see2
  have L0 := (HS1.out.get 0 rfl).lt
  have L2 := (HS1.out.get 2 rfl).lt
  have q0 := HX.out.see6
  have q1 := HT.out.see2
  have q2 := HR.out.see6
  clear hT hT1 hb hown hg hblk hK hlt hbx hz1
  go_wp2_with (at_builtin; refine wpList_app rfl _ _ (by rfl) (by rfl) (by rfl) (by rfl) hr ?_)
  clear hr p0 p1 q0 q1 q2 HS1
  refine ended_L rfl rfl (Blk.put6 ((HR.out.farN (g' := w.heap.size) (by omega) 2 _).farN (g' := w.heap.size) (by omega) 1 _) _ _ _ _ _ _) ⟨⟨.slice va (l.length + 1) vc, by rw [Int.natCast_add], ?_⟩, ?_⟩
  · rw [TRow, List.length_append, flatMap_snoc]
    have n0 := HN.out w.heap.size (by omega) L0
    have n2 := HN.out (w.heap.size + 1 + 1) (by omega) L2
    exact ((((((((HO.out.setOther n0 2 _).setOther n0 1 _).setOther n2 0 _).setOther n2 1 _).setOther n2 2 _).setOther n2 3 _).setOther n2 4 _).setOther n2 5 _)
  · exact (((((((HK.out.st (by omega) hB 2 _).st (by omega) hB 1 _).st (by omega) hB 0 _).st (by omega) hB 1 _).st (by omega) hB 2 _).st (by omega) hB 3 _).st (by omega) hB 4 _).st (by omega) hB 5 _
end Go.Proofs.Ytacgmmpdichlmaa
