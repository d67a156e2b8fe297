/-
  The reference's lexer inside of a string: a token more, or an error. Its condition: a text has at most 65536 bytes.
-/
import Derived.Test.YtacgmmpdichlmaaGreatM26
import Derived.Deep.DrawnRows
namespace Go.Proofs.YtacgmmpdichlmaaGreat
open Go.RowKit
attribute [local go_sem ↓] Go.wp_at_zero Go.wp_at_succ

theorem ORow.mono {B B' n : Nat} {w : World} {v : Value} (h : ORow B' w v n) (hb : B ≤ B') : ORow B w v n := by
  obtain ⟨zs, hz, ho⟩ := h
  refine ⟨zs, hz, ho.1, ?_⟩
  rcases ho.2 with hn | ⟨g, cap, cur, hv, hb', rest⟩
  · exact .inl hn
  · exact .inr ⟨g, cap, cur, hv, Nat.le_trans hb hb', rest⟩
theorem ORow.onto {B n : Nat} {W W' : World} {v : Value} (e : W' = W) (h : ORow B W v n) : ORow B W' v n := e ▸ h
theorem ORow.dr {B n : Nat} {W : World} {v : Value} (h : ORow B W v n) : ORow B W.drew v n := h
theorem ORow.nil (B : Nat) (w : World) : ORow B w (.slice none 0 0) 0 := ⟨[], rfl, World.ownsRow_nil _ _ _ _⟩
/-- 'append(l, x.Open...)', l nothing. -/
theorem open_copy {B n : Nat} {W : World} {v : Value} (h : ORow B W v n) (hn : n ≤ 300) :
    ∃ a c w1, (Builtin.append_ #[25, 25] 25 #[.slice none 0 0, v]).run Tryz.prog W = .ok (.slice a n c) w1 ∧ ORow W.heap.size w1 (.slice a n c) n ∧ Below W.heap.size W w1 := by
  obtain ⟨zs, hz, ho⟩ := h
  rcases Nat.eq_zero_or_pos n with rfl | hp
  · obtain ⟨a, c, rfl⟩ := own_form ho
    exact ⟨none, 0, W, app_none Tryz.underlying25 infoInt (.slice none 0 0) a c W (World.ownsRow_nil W W.heap.size 3 1), ORow.nil _ _, Below.refl _ _⟩
  · rcases ho.2 with ⟨rfl, h0⟩ | ⟨g, cap, cur, rfl, hb, hg, rest⟩
    · omega
    · have hc : ∀ j u, (zs.map fun z => Value.int .i64 z)[j]? = some u → W.cell? ⟨g, 0 + j, none⟩ = some u := fun j u hu => by
        have hj := (List.getElem?_eq_some_iff.1 hu).1
        rw [List.length_map, hz] at hj
        rw [Nat.zero_add, ho.cellAt j (by omega), hu]
      obtain ⟨v', w', hr, hown, hgr, hblk⟩ := app_run (ty := 25) Tryz.underlying25 infoInt rfl (by decide) (by decide) (World.ownsRow_nil W W.heap.size 3 1) g 0 n cap (zs.map fun z => .int .i64 z) (by rw [List.length_map, hz]; omega) hc (by simp [Value.oneCell']) (by omega) hp (Nat.le_refl _)
      rw [Nat.zero_add, List.nil_append] at hown
      obtain ⟨a, c, rfl⟩ := own_form hown
      exact ⟨a, c, w', hr, ⟨zs, hz, hown⟩, (Below.refl _ W).grown hgr (Nat.le_refl _) (fun r hr => by simp [Value.ownBlock] at hr)⟩
/-- 'append(l, 0)'. -/
theorem open_push {B n : Nat} {W : World} {v : Value} (h : ORow B W v n) (hn : n ≤ 300) (hB : B ≤ W.heap.size) :
    ∃ a c w1, (Builtin.append_ #[25, 25] 25 #[v, .slice (some ⟨W.heap.size, 0, none⟩) 1 1]).run Tryz.prog (W.alloc (.cells #[.int .i64 0] 3)) = .ok (.slice a (n + 1) c) w1 ∧ ORow B w1 (.slice a (n + 1) c) (n + 1) ∧ Below B W w1 := by
  obtain ⟨zs, hz, ho⟩ := h
  have hb := Blk.new W 3 #[.int .i64 0]
  obtain ⟨v', w', hr, hown, hgr, hblk⟩ := app_run (ty := 25) Tryz.underlying25 infoInt rfl (by decide) (by decide) (ho.alloc (.cells #[.int .i64 0] 3)) W.heap.size 0 1 1 [.int .i64 0] rfl (fun j u hu => by rw [Nat.zero_add, hb.cell j]; simpa using hu) (by simp [Value.oneCell']) (by omega) (by decide) (by simp; omega)
  obtain ⟨a, c, rfl⟩ := own_form hown
  exact ⟨a, c, w', hr, ⟨zs ++ [0], by simp [hz], by rw [List.map_append]; exact hown⟩, ((Below.refl B W).alloc hB _).grown hgr (by simp; omega) (fun r hr => (ho.lt r hr).1)⟩

/-- What is known of the lexer's world beside the function's variables: ahead of put (none), and behind it. -/
def Bz (w w1 W : World) (G : List Nat) (d : Option (List Tk × Nat × Value × Value)) (_ : Unit) : Prop :=
  match d with
  | none => Below w1.heap.size w1 W ∧ ∀ g ∈ G, w1.heap.size ≤ g
  | some (l, n, tv, ov) => TRow w.heap.size W tv l ∧ ORow w.heap.size W ov n ∧ Kt w.heap.size w1 W ∧ w.heap.size ≤ w1.heap.size ∧ ∀ g ∈ G, w1.heap.size ≤ g ∧ ∃ cs, Blk W g 81 cs
section
variable {w w1 W W' : World} {G : List Nat} {d : Option (List Tk × Nat × Value × Value)} {v : Unit}
theorem Bz.start (w w1 : World) : Bz w w1 w1 [] none () := ⟨Below.refl _ _, fun g h => by cases h⟩
theorem Bz.call (h : Bz w w1 W G none v) (hb : Below W.heap.size W W') : Bz w w1 W' G none v := ⟨bl_call h.1 hb, h.2⟩
theorem Bz.onto (e : W' = W) (h : Bz w w1 W G d v) : Bz w w1 W' G d v := e ▸ h
theorem Bz.al (h : Bz w w1 W G none v) (o : Obj) : Bz w w1 (W.alloc o) G none v := ⟨bl_al h.1 o, h.2⟩
theorem Bz.dr (h : Bz w w1 W G none v) : Bz w w1 W.drew G none v := ⟨bl_dr h.1, h.2⟩
theorem Bz.var (h : Bz w w1 W G none v) {g : Nat} (hg : g = W.heap.size) (o : Obj) : Bz w w1 (W.alloc o) (G ++ [g]) none v := ⟨bl_al h.1 o, fun x hx => by
  rw [List.mem_append, List.mem_singleton] at hx
  rcases hx with hx | rfl
  · exact h.2 x hx
  · rw [hg]; exact h.1.size⟩
theorem ORow.setBlk {B g n : Nat} {t : TypeId} {cs : Array Value} {x : Value} (h : ORow B W x n) (hb : Blk W g t cs) (ht : 3 ≠ t) (i : Nat) (u : Value) : ORow B (W.setCell ⟨g, i, none⟩ u) x n := by
  obtain ⟨zs, hz, ho⟩ := h
  exact ⟨zs, hz, ho.setOther (own_blk_ne ho hb ht) i u⟩
theorem Bz.st (h : Bz w w1 W G d v) {g : Nat} (hg : g ∈ G) (i : Nat) (u : Value) : Bz w w1 (W.setCell ⟨g, i, none⟩ u) G d v := by
  match d, h with
  | none, h => exact ⟨bl_st h.1 (h.2 g hg) i u, h.2⟩
  | some (l, n, tv, ov), ⟨h1, h2, h3, h4, h5⟩ =>
    obtain ⟨hge, cs, hb⟩ := h5 g hg
    refine ⟨h1.setOther (own_blk_ne h1 hb (by decide)) i u, h2.setBlk hb (by decide) i u, h3.st hge h4 i u, h4, fun x hx => ⟨(h5 x hx).1, ?_⟩⟩
    obtain ⟨_, cs', hb'⟩ := h5 x hx
    by_cases e : x = g
    · subst e; exact ⟨_, hb.set_ i u⟩
    · exact ⟨_, hb'.farN e i u⟩
theorem Bz.st6 (h : Bz w w1 W G d v) {g : Nat} (hg : g ∈ G) (a b c e f x : Value) : Bz w w1 ((((((W.setCell ⟨g, 0, none⟩ a).setCell ⟨g, 1, none⟩ b).setCell ⟨g, 2, none⟩ c).setCell ⟨g, 3, none⟩ e).setCell ⟨g, 4, none⟩ f).setCell ⟨g, 5, none⟩ x) G d v := (((((h.st hg 0 a).st hg 1 b).st hg 2 c).st hg 3 e).st hg 4 f).st hg 5 x
/-- Behind put. -/
theorem Bz.put {l : List Tk} {n : Nat} {tv ov : Value} {V : List (Nat × TypeId × Array Value)} (h : Bz w w1 W G none v) (hw : w.heap.size ≤ w1.heap.size) (hk : Kt w.heap.size W W') (hT : TRow w.heap.size W' tv l) (hO : ORow w.heap.size W ov n) (hS : St w W V) (hV : ∀ x ∈ V, x.2.1 = 81) (hG : ∀ x ∈ V, x.1 ∈ G) : Bz w w1 W' (V.map (·.1)) (some (l, n, tv, ov)) () :=
  ⟨hT, hk.orow hO, (Kt.of_below h.1 hw).trans hk, hw, fun g hg => by
    obtain ⟨x, hx, rfl⟩ := List.mem_map.1 hg
    refine ⟨h.2 _ (hG x hx), x.2.2, ?_⟩
    have := hk.blk (hS.vars x hx).2 (by rw [hV x hx]; decide)
    rw [hV x hx] at this
    exact this⟩
end
/-- A lexer's value, and what is known of it. -/
def LS (B : Nat) (w : World) (v : Value) (s : ByteArray) (p : Nat) (l : List Tk) (n : Nat) (inn : Bool) (e : Int) : Prop :=
  ∃ tv ov, v = Lxv s p tv ov inn e ∧ TRow B w tv l ∧ ORow B w ov n ∧ (l.length ≤ p ∧ p ≤ s.size ∧ n ≤ 256) ∧ (∀ t ∈ l, t.ok)
/-- What a step of the lexer hands back. -/
def LexP (B : Nat) (w : World) (s : ByteArray) (p : Nat) (r : Ending) (w' : World) : Prop :=
  (∃ v' p' l' n' inn' e', r = .returned v' ∧ LS B w' v' s p' l' n' inn' e' ∧ (e' = 0 → p < p')) ∧ Kt B w w'
theorem ok_snoc {l : List Tk} {t : Tk} (h : ∀ t ∈ l, t.ok) (ht : t.ok) : ∀ x ∈ l ++ [t], x.ok := fun x hx => by
  rw [List.mem_append, List.mem_singleton] at hx
  rcases hx with hx | rfl
  · exact h x hx
  · exact ht
theorem size_ext (s : ByteArray) (p : Nat) : (s.extract p s.size).size = s.size - p := by rw [ByteArray.size_extract]; omega
theorem size_ext2 (s : ByteArray) (p n : Nat) (h : n ≤ s.size - p) : ((s.extract p s.size).extract 0 n).size = n := by rw [ByteArray.size_extract, size_ext]; omega
theorem put_b {B p p' m : Nat} {l : List Tk} {t : Tk} {s : ByteArray} {tv ov : Value} {inn : Bool} {e : Int} {w : World} (hT : TRow B w tv l) (hB : B ≤ w.heap.size) (hl : l.length ≤ 70000) (hp : p ≤ 65536) (ht : t.text.size ≤ 65536) (hov : ∃ a n c, ov = .slice a n c) (hpp : p + t.text.size = p') (hm : l.length + 1 = m) :
    Calls Tryz.prog 67 #[.agg #[.string s, .int .i64 p, tv, ov, .bool inn, .int .i64 e], .agg #[.int .i64 t.kind, .string t.text]] w fun r w' => (∃ ta tc, r = .returned (.agg #[.string s, .int .i64 p', .slice ta m tc, ov, .bool inn, .int .i64 e]) ∧ TRow B w' (.slice ta m tc) (l ++ [t])) ∧ Kt B w w' := by
  subst hpp
  subst hm
  refine (put_any (t := t) hT hB hl hp ht hov).mono ?_
  rintro r w' ⟨⟨tv', rfl, h1⟩, h2⟩
  obtain ⟨a, c, rfl⟩ := h1.form
  rw [List.length_append] at h1 ⊢
  exact ⟨⟨a, c, rfl, h1⟩, h2⟩
theorem lex_end {w w1 W : World} {G : List Nat} {s : ByteArray} {p p' n : Nat} {l : List Tk} {t : Tk} {tv ov : Value} {inn : Bool} (hz : Bz w w1 W G (some (l ++ [t], n, tv, ov)) ()) (hl : l.length ≤ p) (hok : ∀ t ∈ l, t.ok) (ht : t.ok) (h1 : 1 ≤ t.text.size) (hpp : p + t.text.size = p') (h2 : p + t.text.size ≤ s.size) (hn : n ≤ 256) :
    LexP w.heap.size w1 s p (.returned (.agg #[.string s, .int .i64 p', tv, ov, .bool inn, .int .i64 0])) W :=
  ⟨⟨_, p', l ++ [t], n, inn, 0, rfl, ⟨tv, ov, rfl, hz.1, hz.2.1, ⟨by simp; omega, by omega, hn⟩, ok_snoc hok ht⟩, fun _ => by omega⟩, hz.2.2.1⟩
theorem lex_err {w w1 W : World} {G : List Nat} {s : ByteArray} {p n : Nat} {l : List Tk} {tv ov : Value} {inn : Bool} {e : Int} (hz : Bz w w1 W G none ()) (hw : w.heap.size ≤ w1.heap.size) (hT : TRow w.heap.size w1 tv l) (hO : ORow w.heap.size w1 ov n) (hl : l.length ≤ p) (hp : p ≤ s.size) (hok : ∀ t ∈ l, t.ok) (hn : n ≤ 256) (he : e ≠ 0) :
    LexP w.heap.size w1 s p (.returned (.agg #[.string s, .int .i64 p, tv, ov, .bool inn, .int .i64 e])) W :=
  ⟨⟨_, p, l, n, inn, e, rfl, ⟨tv, ov, rfl, hT.below hz.1, hO.below hz.1, ⟨hl, hp, hn⟩, hok⟩, fun h => absurd h he⟩, Kt.of_below hz.1 hw⟩
theorem piece_b (s : ByteArray) (w : World) (hs : s.size ≤ 65536) : Calls Tryz.prog 66 #[.string s] w fun e w' => (∃ n : Nat, e = .returned (.int .i64 n) ∧ n ≤ s.size) ∧ Below w.heap.size w w' := piece_any s w hs
theorem st_start {w w1 : World} (h : Below w.heap.size w w1) : St w w1 [] := ⟨h, fun x h => (by simp at h), by simp⟩
set_option maxRecDepth 100000 in
set_option maxHeartbeats 4000000 in
theorem inside_any {w w1 : World} {s : ByteArray} {p n : Nat} {l : List Tk} {tv ov : Value} (hb : Below w.heap.size w w1) (hs : s.size ≤ 65536) (hp : p < s.size) (hl : l.length ≤ p) (hok : ∀ t ∈ l, t.ok) (hn : n ≤ 256) (hT : TRow w.heap.size w1 tv l) (hO : ORow w.heap.size w1 ov n) :
    Calls Tryz.prog 54 #[Lxv s p tv ov true 0] w1 (LexP w.heap.size w1 s p) := by
  obtain ⟨a, c, rfl⟩ := hT.form
  obtain ⟨oa, oc, rfl⟩ := hO.form
  unfold Lxv
  have HOK := hide hok
  have HT := hide hT
  have HO := hide hO
  have HB := hide hb
  have hsz := size_ext s p
  obtain ⟨q, hq⟩ : ∃ q, s.extract p s.size = q := ⟨_, rfl⟩
  have HQ := hide hq
  rw [hq] at hsz
  have hq0 : (0 : Int) < (q.size : Int) := by omega
  have HSZ := hide hsz
  clear hsz
  have hw1 := hb.size
  have HSa := hide (st_start hb)
  have HNbz0 := hide (Bz.start w w1)
  clear hok hT hO hb hq
  go_enter Tryz.func54, Tryz.ntmps54
  go_wp2_with fail
  rw [HQ.out]
  have lv1 := lV HSa
  refine named fun W1 hW1 => ?_
  have HS1 := onS hW1 HSa.out.va.va
  have HNbz1 := hide (Bz.onto hW1 ((HNbz0.out.var (g := w1.heap.size) (by simp) _).var (g := w1.heap.size + 1) (by simp) _))
  clear HNbz0
  clear hW1 HSa
  refine (piece_b q _ (by rw [HSZ.out]; omega)).mono ?_
  rintro e w2 ⟨⟨k, rfl, hk⟩, hb2⟩
  have HS2 := hide (HS1.out.call hb2)
  have HNbz2 := hide (HNbz1.out.call hb2)
  clear HNbz1
  clear hb2 HS1
  have p0 := rD HS2
  by_cases hk0 : 0 < k
  ·
   have hk0i : (0 : Int) < (k : Int) := by omega
   have hki : (k : Int) ≤ (q.size : Int) := by omega
   obtain ⟨tx, htx⟩ : ∃ tx, q.extract 0 k = tx := ⟨_, rfl⟩
   have htz : tx.size = k := by rw [← htx, ByteArray.size_extract]; omega
   have HTX := hide htx
   have HTZ := hide htz
   clear htx htz
   go_wp2_with fail
   refine namedWp fun W3 hW3 => ?_
   have HS3 := hide (St.onto hW3 HS2.out)
   have HNbz3 := hide (Bz.onto hW3 HNbz2.out)
   clear HNbz2
   clear hW3 HS2
   clear p0
   refine rgn HS3.out [0] fun W4 hW4 => ?_
   have HS4 := hide (St.onto hW4 HS3.out.dr)
   have HNbz4 := hide (Bz.onto hW4 HNbz3.out.dr)
   clear HNbz3
   clear hW4 HS3
   refine tK 0 (kS HS4.out [0]) ?_
   refine tK 1 (kS HS4.out [0]) ?_
   refine tK 2 (kS HS4.out [0]) ?_
   refine tK 3 (kS HS4.out [0]) ?_
   refine tK 4 (kS HS4.out [0]) ?_
   refine rY 5 fun K hK => ?_
   go_simp
   rw [HTX.out]
   obtain ⟨p5, hpp5⟩ : ∃ p5, p + (tx).size = p5 := ⟨_, rfl⟩
   obtain ⟨m5, hm5⟩ : ∃ m5, l.length + 1 = m5 := ⟨_, rfl⟩
   have HP5 := hide hpp5
   have HM5 := hide hm5
   clear hpp5 hm5
   refine (put_b (B := w.heap.size) (t := ⟨8, tx⟩) (HT.out.below HNbz4.out.1) HS4.out.below.size (by omega) (by omega) (by have h1 := HTZ.out; have h2 := HSZ.out; have h3 : (⟨0, tx⟩ : Tk).text.size = tx.size := rfl; simp only; omega) ⟨_, _, _, rfl⟩ HP5.out HM5.out).mono ?_
   rintro e w5 ⟨⟨ta5, tc5, rfl, hT5⟩, hk5⟩
   have HNbz5 := hide (show Bz w w1 w5 [w1.heap.size, w1.heap.size + 1] _ () from HNbz4.out.put hw1 hk5 hT5 (HO.out.below HNbz4.out.1) HS4.out (by simp) (by simp))
   have HS5 := hide (show St w w5 [(w1.heap.size, 81, #[.string s, .int .i64 p, .slice a l.length c, .slice oa n oc, .bool true, .int .i64 0]), (w1.heap.size + 1, 81, #[.string ⟨#[]⟩, .int .i64 0, .slice none 0 0, .slice none 0 0, .bool false, .int .i64 0])] from St.kt HS4.out hk5 (by simp))
   clear hT5 hk5 HNbz4 HS4
   go_simp
   refine onK hK (kS HS5.out [0]) ?_
   clear hK K
   refine rY 6 fun K hK => ?_
   have p1 := rG HS5 1
   go_simp
   refine onW hK (kS (HS5.out.st6 1 rfl _ _ _ _ _ _) [0]) fun W6 hW6 => ?_
   clear hK K
   have HS6 := onS hW6 (HS5.out.st6 1 rfl _ _ _ _ _ _)
   have HNbz6 := hide (Bz.onto hW6 (HNbz5.out.st6 (by simp) _ _ _ _ _ _))
   clear HNbz5
   clear hW6 HS5
   clear p1
   refine wpAnyH_done (by kernel_rfl) ?_ _
   go_wp2_with fail
   refine namedPost fun W7 hW7 => ?_
   have HS7 := hide (St.onto hW7 HS6.out)
   have HNbz7 := hide (Bz.onto hW7 HNbz6.out)
   clear HNbz6
   clear hW7 HS6
   exact ended_L rfl rfl (HS7.out.get 1 rfl) (lex_end (t := ⟨8, tx⟩) HNbz7.out hl HOK.out ⟨by show -9223372036854775808 ≤ (8 : Int) ∧ (8 : Int) ≤ _; omega, by show tx.size ≤ 65536; have h1 := HTZ.out; have h2 := HSZ.out; omega, by rintro (h | h) <;> cases h⟩ (by have h1 := HTZ.out; have h2 := HSZ.out; have h3 : (⟨0, tx⟩ : Tk).text.size = tx.size := rfl; simp only; omega) HP5.out (by have h1 := HTZ.out; have h2 := HSZ.out; have h3 : (⟨0, tx⟩ : Tk).text.size = tx.size := rfl; simp only; omega) (by omega))
  have hk0i : ¬ (0 : Int) < (k : Int) := by omega
  clear hk0 hk
  have hqn : 0 < q.size := by omega
  obtain ⟨c0, hc0⟩ : ∃ c0 : Nat, q[0].toNat = c0 := ⟨_, rfl⟩
  have hq1 : (1 : Int) ≤ (q.size : Int) := by omega
  by_cases h34 : c0 = 34
  ·
   have e34 : ((c0 : Int) == 34) = true := by simp; omega
   clear h34
   obtain ⟨tx, htx⟩ : ∃ tx, q.extract 0 1 = tx := ⟨_, rfl⟩
   have HTZ := hide (show tx.size = 1 by rw [← htx, ByteArray.size_extract]; omega)
   have HTX := hide htx
   clear htx
   go_wp2_with fail
   refine namedWp fun W8 hW8 => ?_
   have HS8 := onS hW8 (HS2.out.st 0 rfl 4 _)
   have HNbz8 := hide (Bz.onto hW8 (HNbz2.out.st (by simp) _ _))
   clear HNbz2
   clear hW8 HS2
   clear p0
   refine rgn HS8.out [0] fun W9 hW9 => ?_
   have HS9 := hide (St.onto hW9 HS8.out.dr)
   have HNbz9 := hide (Bz.onto hW9 HNbz8.out.dr)
   clear HNbz8
   clear hW9 HS8
   refine tK 0 (kS HS9.out [0]) ?_
   refine tK 1 (kS HS9.out [0]) ?_
   refine tK 2 (kS HS9.out [0]) ?_
   refine tK 3 (kS HS9.out [0]) ?_
   refine rY 4 fun K hK => ?_
   go_simp
   rw [HTX.out]
   obtain ⟨p10, hpp10⟩ : ∃ p10, p + (tx).size = p10 := ⟨_, rfl⟩
   obtain ⟨m10, hm10⟩ : ∃ m10, l.length + 1 = m10 := ⟨_, rfl⟩
   have HP10 := hide hpp10
   have HM10 := hide hm10
   clear hpp10 hm10
   refine (put_b (B := w.heap.size) (t := ⟨11, tx⟩) (HT.out.below HNbz9.out.1) HS9.out.below.size (by omega) (by omega) (by have h1 := HTZ.out; have h2 := HSZ.out; have h3 : (⟨0, tx⟩ : Tk).text.size = tx.size := rfl; simp only; omega) ⟨_, _, _, rfl⟩ HP10.out HM10.out).mono ?_
   rintro e w10 ⟨⟨ta10, tc10, rfl, hT10⟩, hk10⟩
   have HNbz10 := hide (show Bz w w1 w10 [w1.heap.size, w1.heap.size + 1] _ () from HNbz9.out.put hw1 hk10 hT10 (HO.out.below HNbz9.out.1) HS9.out (by simp) (by simp))
   have HS10 := hide (show St w w10 [(w1.heap.size, 81, #[.string s, .int .i64 p, .slice a l.length c, .slice oa n oc, .bool false, .int .i64 0]), (w1.heap.size + 1, 81, #[.string ⟨#[]⟩, .int .i64 0, .slice none 0 0, .slice none 0 0, .bool false, .int .i64 0])] from St.kt HS9.out hk10 (by simp))
   clear hT10 hk10 HNbz9 HS9
   go_simp
   refine onK hK (kS HS10.out [0]) ?_
   clear hK K
   refine rY 5 fun K hK => ?_
   have p1 := rG HS10 1
   go_simp
   refine onW hK (kS (HS10.out.st6 1 rfl _ _ _ _ _ _) [0]) fun W11 hW11 => ?_
   clear hK K
   have HS11 := onS hW11 (HS10.out.st6 1 rfl _ _ _ _ _ _)
   have HNbz11 := hide (Bz.onto hW11 (HNbz10.out.st6 (by simp) _ _ _ _ _ _))
   clear HNbz10
   clear hW11 HS10
   clear p1
   refine wpAnyH_done (by kernel_rfl) ?_ _
   go_wp2_with fail
   refine namedPost fun W12 hW12 => ?_
   have HS12 := hide (St.onto hW12 HS11.out)
   have HNbz12 := hide (Bz.onto hW12 HNbz11.out)
   clear HNbz11
   clear hW12 HS11
   exact ended_L rfl rfl (HS12.out.get 1 rfl) (lex_end (t := ⟨11, tx⟩) HNbz12.out hl HOK.out ⟨by show -9223372036854775808 ≤ (11 : Int) ∧ (11 : Int) ≤ _; omega, by show tx.size ≤ 65536; have h1 := HTZ.out; have h2 := HSZ.out; omega, by rintro (h | h) <;> cases h⟩ (by have h1 := HTZ.out; have h2 := HSZ.out; have h3 : (⟨0, tx⟩ : Tk).text.size = tx.size := rfl; simp only; omega) HP10.out (by have h1 := HTZ.out; have h2 := HSZ.out; have h3 : (⟨0, tx⟩ : Tk).text.size = tx.size := rfl; simp only; omega) (by omega))
  have e34 : ((c0 : Int) == 34) = false := by simp; omega
  clear h34
  by_cases h2 : q.size < 2
  ·
   have h2i : (q.size : Int) < 2 := by omega
   go_wp2_with fail
   refine namedPost fun W13 hW13 => ?_
   have HS13 := onS hW13 ((HS2.out.st 0 rfl 5 _).st6 1 rfl _ _ _ _ _ _)
   have HNbz13 := hide (Bz.onto hW13 ((HNbz2.out.st (by simp) _ _).st6 (by simp) _ _ _ _ _ _))
   clear HNbz2
   clear hW13 HS2
   clear p0
   exact ended_L rfl rfl (HS13.out.get 1 rfl) (lex_err HNbz13.out hw1 HT.out HO.out hl (by omega) HOK.out hn (by decide))
  have h2i : ¬ (q.size : Int) < 2 := by omega
  have h2j : (1 : Int) < (q.size : Int) := by omega
  have hq2 : (2 : Int) ≤ (q.size : Int) := by omega
  obtain ⟨c1, hc1⟩ : ∃ c1 : Nat, q[1].toNat = c1 := ⟨_, rfl⟩
  by_cases h40 : c1 = 40
  ·
   have e40 : ((c1 : Int) != 40) = false := by simp; omega
   clear h40
   by_cases hn2 : 256 ≤ n
   ·
    have hn2i : ¬ (n : Int) < 256 := by omega
    go_wp2_with fail
    refine namedPost fun W14 hW14 => ?_
    have HS14 := onS hW14 ((HS2.out.st 0 rfl 5 _).st6 1 rfl _ _ _ _ _ _)
    have HNbz14 := hide (Bz.onto hW14 ((HNbz2.out.st (by simp) _ _).st6 (by simp) _ _ _ _ _ _))
    clear HNbz2
    clear hW14 HS2
    clear p0
    exact ended_L rfl rfl (HS14.out.get 1 rfl) (lex_err HNbz14.out hw1 HT.out HO.out hl (by omega) HOK.out hn (by decide))
   have hn2i : (n : Int) < 256 := by omega
   obtain ⟨tx, htx⟩ : ∃ tx, q.extract 0 2 = tx := ⟨_, rfl⟩
   have HTZ := hide (show tx.size = 2 by rw [← htx, ByteArray.size_extract]; omega)
   have HTX := hide htx
   clear htx
   go_wp2_with (refine stopAt 47 ?_)
   refine namedStop fun W15 hW15 => ?_
   have HS15 := hide (St.onto hW15 HS2.out)
   have HNbz15 := hide (Bz.onto hW15 HNbz2.out)
   clear HNbz2
   clear hW15 HS2
   clear p0
   have p0 := rD HS15
   obtain ⟨a16, c16, w16, hr16, ho16, hb16⟩ := open_copy (HO.out.below HNbz15.out.1) (by omega)
   obtain ⟨a16b, c16b, w16b, hr16b, ho16b, hb16b⟩ := open_push ho16 (by omega) hb16.size
   have hB16 := hb16.trans hb16b
   have HB16 := hide hB16
   have HO16 := hide (ho16b.mono HS15.out.below.size)
   clear ho16 ho16b hb16 hb16b hB16
   go_wp2_with (first | (at_builtin; refine wpList_app rfl _ _ (by rfl) (by rfl) (by rfl) (by rfl) hr16 ?_) | (refine stopAt 51 ?_))
   refine ⟨?_⟩
   clear hr16
   go_wp2_with (first | (at_builtin; refine wpList_app rfl _ _ (by rfl) (by rfl) (by rfl) (by rfl) hr16b ?_) | (refine stopAt 54 ?_))
   have HS16 := hide (HS15.out.call HB16.out)
   have HNbz16 := hide (HNbz15.out.call HB16.out)
   clear HS15 HNbz15 hr16b
   clear p0
   refine namedStop fun W17 hW17 => ?_
   have HS17 := hide (St.onto hW17 HS16.out)
   have HOr17 := hide (ORow.onto hW17 HO16.out)
   clear HO16
   have HNbz17 := hide (Bz.onto hW17 HNbz16.out)
   clear HNbz16
   clear hW17 HS16
   have p0 := rD HS17
   go_wp2_with fail
   refine namedWp fun W18 hW18 => ?_
   have HS18 := onS hW18 ((HS17.out.st 0 rfl 3 _).st 0 rfl 4 _)
   have HOr18 := hide (ORow.onto hW18 ((HOr17.out.setBlk (HS17.out.get 0 rfl) (by decide) _ _).setBlk ((HS17.out.st 0 rfl 3 _).get 0 rfl) (by decide) _ _))
   clear HOr17
   have HNbz18 := hide (Bz.onto hW18 ((HNbz17.out.st (by simp) _ _).st (by simp) _ _))
   clear HNbz17
   clear hW18 HS17
   clear p0
   refine rgn HS18.out [0] fun W19 hW19 => ?_
   have HS19 := hide (St.onto hW19 HS18.out.dr)
   have HOr19 := hide (ORow.onto hW19 HOr18.out.dr)
   clear HOr18
   have HNbz19 := hide (Bz.onto hW19 HNbz18.out.dr)
   clear HNbz18
   clear hW19 HS18
   refine tK 0 (kS HS19.out [0]) ?_
   refine tK 1 (kS HS19.out [0]) ?_
   refine tK 2 (kS HS19.out [0]) ?_
   refine tK 3 (kS HS19.out [0]) ?_
   refine rY 4 fun K hK => ?_
   go_simp
   rw [HTX.out]
   obtain ⟨p20, hpp20⟩ : ∃ p20, p + (tx).size = p20 := ⟨_, rfl⟩
   obtain ⟨m20, hm20⟩ : ∃ m20, l.length + 1 = m20 := ⟨_, rfl⟩
   have HP20 := hide hpp20
   have HM20 := hide hm20
   clear hpp20 hm20
   refine (put_b (B := w.heap.size) (t := ⟨9, tx⟩) (HT.out.below HNbz19.out.1) HS19.out.below.size (by omega) (by omega) (by have h1 := HTZ.out; have h2 := HSZ.out; have h3 : (⟨0, tx⟩ : Tk).text.size = tx.size := rfl; simp only; omega) ⟨_, _, _, rfl⟩ HP20.out HM20.out).mono ?_
   rintro e w20 ⟨⟨ta20, tc20, rfl, hT20⟩, hk20⟩
   have HNbz20 := hide (show Bz w w1 w20 [w1.heap.size, w1.heap.size + 1] _ () from HNbz19.out.put hw1 hk20 hT20 HOr19.out HS19.out (by simp) (by simp))
   have HS20 := hide (show St w w20 [(w1.heap.size, 81, #[.string s, .int .i64 p, .slice a l.length c, .slice a16b (n + 1) c16b, .bool false, .int .i64 0]), (w1.heap.size + 1, 81, #[.string ⟨#[]⟩, .int .i64 0, .slice none 0 0, .slice none 0 0, .bool false, .int .i64 0])] from St.kt HS19.out hk20 (by simp))
   clear hT20 hk20 HNbz19 HS19
   go_simp
   refine onK hK (kS HS20.out [0]) ?_
   clear hK K
   refine rY 5 fun K hK => ?_
   have p1 := rG HS20 1
   go_simp
   refine onW hK (kS (HS20.out.st6 1 rfl _ _ _ _ _ _) [0]) fun W21 hW21 => ?_
   clear hK K
   have HS21 := onS hW21 (HS20.out.st6 1 rfl _ _ _ _ _ _)
   have HNbz21 := hide (Bz.onto hW21 (HNbz20.out.st6 (by simp) _ _ _ _ _ _))
   clear HNbz20
   clear hW21 HS20
   clear p1
   refine wpAnyH_done (by kernel_rfl) ?_ _
   go_wp2_with fail
   refine namedPost fun W22 hW22 => ?_
   have HS22 := hide (St.onto hW22 HS21.out)
   have HNbz22 := hide (Bz.onto hW22 HNbz21.out)
   clear HNbz21
   clear hW22 HS21
   exact ended_L rfl rfl (HS22.out.get 1 rfl) (lex_end (t := ⟨9, tx⟩) HNbz22.out hl HOK.out ⟨by show -9223372036854775808 ≤ (9 : Int) ∧ (9 : Int) ≤ _; omega, by show tx.size ≤ 65536; have h1 := HTZ.out; have h2 := HSZ.out; omega, by rintro (h | h) <;> cases h⟩ (by have h1 := HTZ.out; have h2 := HSZ.out; have h3 : (⟨0, tx⟩ : Tk).text.size = tx.size := rfl; simp only; omega) HP20.out (by have h1 := HTZ.out; have h2 := HSZ.out; have h3 : (⟨0, tx⟩ : Tk).text.size = tx.size := rfl; simp only; omega) (by omega))
  have e40 : ((c1 : Int) != 40) = true := by simp; omega
  clear h40
  go_wp2_with fail
  refine namedPost fun W23 hW23 => ?_
  have HS23 := onS hW23 ((HS2.out.st 0 rfl 5 _).st6 1 rfl _ _ _ _ _ _)
  have HNbz23 := hide (Bz.onto hW23 ((HNbz2.out.st (by simp) _ _).st6 (by simp) _ _ _ _ _ _))
  clear HNbz2
  clear hW23 HS2
  clear p0
  exact ended_L rfl rfl (HS23.out.get 1 rfl) (lex_err HNbz23.out hw1 HT.out HO.out hl (by omega) HOK.out hn (by decide))
end Go.Proofs.YtacgmmpdichlmaaGreat
