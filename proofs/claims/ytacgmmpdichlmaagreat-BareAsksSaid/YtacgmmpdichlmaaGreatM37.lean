/-
  The program's iterator over the paths of brackets: its contract. Its conditions: the values read as a node and a path, in blocks that the loop's body keeps.
-/
import Derived.Test.YtacgmmpdichlmaaGreatM36
import Derived.Test.YtacgmmpdichlmaaGreatM03
namespace Go.Proofs.YtacgmmpdichlmaaGreat
open Go.RowKit Go.Shelf
attribute [local go_sem] Oper.semAt_some

def eachL (path : List Int) (d : Nd) : List (List Int) := (bracksN d).map (path ++ ·)
def eachLs (path : List Int) : Nat → List Nd → List (List Int)
  | _, [] => []
  | i, d :: r => eachL (path ++ [(i : Int)]) d ++ eachLs path (i + 1) r
theorem eachLs_of (path : List Int) : ∀ (ks : Nds) (i : Nat), (bracksNs i ks).map (path ++ ·) = eachLs path i ks.toL
  | .nil, i => by rw [bracksNs, Nds.toL, eachLs]; rfl
  | .cons d r, i => by
    rw [bracksNs, Nds.toL, eachLs, List.map_append, eachLs_of path r, eachL, List.map_map]
    congr 1
    refine List.map_congr_left fun p _ => ?_
    simp
theorem eachL_mk (path : List Int) (k : Int) (s : ByteArray) (ks : Nds) : eachL path (.mk k s ks) = (if isBr k ks.len then [path] else []) ++ eachLs path 0 ks.toL := by
  rw [eachL, bracksN, List.map_append, eachLs_of]
  congr 1
  split <;> simp
theorem eachLs_append (path : List Int) : ∀ (a b : List Nd) (i : Nat), eachLs path i (a ++ b) = eachLs path i a ++ eachLs path (i + a.length) b
  | [], b, i => by simp [eachLs]
  | d :: a, b, i => by rw [List.cons_append, eachLs, eachLs, eachLs_append path a b, List.append_assoc, List.length_cons, show i + 1 + a.length = i + (a.length + 1) by omega]
theorem eachLs_take (path : List Int) {ds : List Nd} {q : Nat} (h : q < ds.length) : eachLs path 0 (ds.take (q + 1)) = eachLs path 0 (ds.take q) ++ eachL (path ++ [(q : Int)]) ds[q] := by
  rw [List.take_succ_eq_append_getElem h, eachLs_append, List.length_take, Nat.min_eq_left (by omega), eachLs, eachLs, List.append_nil, Nat.zero_add]

def marks (Ds : List Nat) : List Deferred := Ds.map fun D => { target := .collected D, args := #[] }
/-- A function that hands back nothing leaves, its marks met one by one. -/
theorem leave_marks {P : Program} {fn : Func} (hr : fn.results = #[]) {R : World → Prop} {B : Nat} (hR : ∀ W D, R W → B ≤ D → W.heap[D]? = some (.deferred (some [])) → R (W.putObj D (.deferred none))) (tmps : Array Value) :
    ∀ (Ds : List Nat) (W : World), Ds.Nodup → (∀ D ∈ Ds, B ≤ D ∧ W.heap[D]? = some (.deferred (some []))) → R W → LeavesInM Fence.wide 0 P fn tmps (fun e W' => (∃ r, e = .returned r) ∧ R W') (marks Ds) .returning W
  | [], W, _, _, h => ⟨_, results_none hr tmps P W, ⟨_, rfl⟩, h⟩
  | D :: Ds, W, hn, hD, h => by
    have hd := hD D (List.mem_cons_self ..)
    rw [List.nodup_cons] at hn
    refine ⟨by simp, .inl ⟨_, _, rfl, run_takeDeferred hd.2, leave_marks hr hR tmps Ds _ hn.2 (fun E hE => ?_) (hR W D h hd.1 hd.2)⟩⟩
    have he := hD E (List.mem_cons_of_mem _ hE)
    exact ⟨he.1, (World.putObj_heap_other (fun e => hn.1 (by rw [← e]; exact hE))).trans he.2⟩
theorem Kq.own_ {β : Type} {n₀ b : Nat} {X : World} {B : Nat} (hn : n₀ ≤ X.heap.size) (hbX : b < X.heap.size) (hB : X.heap.size ≤ B) : OwnFrom B (fun (_ : β) W => Kq n₀ b X W) := fun _ Y Z row hs hg hr => by
  have hzs := hs.recs.size
  have hb : Z.heap[b]? = Y.heap[b]? := hg.block b (by omega) (fun e => by have := (hr b e.symm).1; omega)
  exact ⟨fun k hk ho => (hg.block k (by omega) (fun e => by have := (hr k e.symm).1; omega)).trans (hs.keep k hk ho),
    fun k hk => hs.own k ((Ow.congr hb k).1 hk), hs.below.grown hg (Nat.le_trans hn hs.below.size) (fun r e => by have := (hr r e).1; omega),
    ⟨Nat.le_trans hs.recs.size hg.size, fun k x hk hx => by
      have h1 := hs.recs.same k x hk hx
      have h2 := (Array.getElem?_eq_some_iff.1 hk).1
      exact (hg.block k (Array.getElem?_eq_some_iff.1 h1).1 (fun e => by have := (hr k e.symm).1; omega)).trans h1⟩,
    fun hw k hk => Nat.lt_of_lt_of_le (hs.wf hw k ((Ow.congr hb k).1 hk)) hg.size⟩
theorem blk_own {β : Type} {g B : Nat} {t : TypeId} {cs : Array Value} (hg : g < B) : OwnFrom B (fun (_ : β) W => Blk W g t cs) := fun _ Y Z row hs hgr hr =>
  (hgr.block g hs.lt (fun e => by have := (hr g e.symm).1; omega)).trans hs
/-- The marks' blocks are open. -/
def Open_ (B : Nat) (Ds : List Nat) (W : World) : Prop := ∀ D ∈ Ds, B ≤ D ∧ D < W.heap.size ∧ W.heap[D]? = some (.deferred (some []))
theorem Open_.own {β : Type} {B B' : Nat} {Ds : List Nat} (h : ∀ D ∈ Ds, D < B') : OwnFrom B' (fun (_ : β) W => Open_ B Ds W) := fun _ Y Z row hs hg hr D hD => by
  obtain ⟨h1, h2, h3⟩ := hs D hD
  exact ⟨h1, Nat.lt_of_lt_of_le h2 hg.size, (hg.block D h2 (fun e => by have := (hr D e.symm).1; have := h D hD; omega)).trans h3⟩
theorem Open_.recs {B : Nat} {Ds : List Nat} {W W' : World} (h : Open_ B Ds W) (hk : KeepsFrom B W W') : Open_ B Ds W' := fun D hD => by
  obtain ⟨h1, h2, h3⟩ := h D hD
  exact ⟨h1, Nat.lt_of_lt_of_le h2 hk.size, hk.same D _ h1 h3 rfl⟩
theorem Open_.below_ {B : Nat} {Ds : List Nat} {W W' : World} (h : Open_ B Ds W) (hb : Below W.heap.size W W') : Open_ B Ds W' := fun D hD => by
  obtain ⟨h1, h2, h3⟩ := h D hD
  exact ⟨h1, Nat.lt_of_lt_of_le h2 hb.size, (hb.block D h2).trans h3⟩
theorem eachLs_prefix (path : List Int) {l : List Nd} {q : Nat} (h : q < l.length) (pre0 : List (List Int)) : (pre0 ++ eachLs path 0 (l.take q)) ++ eachL (path ++ [(q : Int)]) l[q] <+: pre0 ++ eachLs path 0 l := by
  rw [List.append_assoc, ← eachLs_take path h]
  have h3 := eachLs_append path (l.take (q + 1)) (l.drop (q + 1)) 0
  rw [List.take_append_drop] at h3
  rw [h3]
  exact ⟨eachLs path (0 + (l.take (q + 1)).length) (l.drop (q + 1)), by rw [List.append_assoc]⟩
/-- The iterator's variables at a world: its node, its path. -/
structure EV (n₀ b Bn Bp : Nat) (d : Nd) (k : Int) (s : ByteArray) (y : Option Addr) (m c : Nat) (pa : Option Addr) (pc : Nat) (path : List Int) (W : World) : Prop where
  bn : Blk W Bn 24 #[.int .i64 k, .string s, .slice y m c]
  bp : Blk W Bp 25 #[.slice pa path.length pc]
  nd : IsNd W (· < n₀) d (.agg #[.int .i64 k, .string s, .slice y m c])
  path : IsPath W (fun k => k < W.heap.size ∧ ¬ Ow b W k) (.slice pa path.length pc) path
  hn : ¬ Ow b W Bn
  hp : ¬ Ow b W Bp
  wf : ∀ k, Ow b W k → k < W.heap.size
theorem EV.below {n₀ b Bn Bp : Nat} {d : Nd} {k : Int} {s : ByteArray} {y : Option Addr} {m c : Nat} {pa : Option Addr} {pc : Nat} {path : List Int} {W W' : World} (h : EV n₀ b Bn Bp d k s y m c pa pc path W) (hb : Below W.heap.size W W') (hbW : b < W.heap.size) (hn : n₀ ≤ W.heap.size) : EV n₀ b Bn Bp d k s y m c pa pc path W' := by
  have hc := Ow.congr (hb.block b hbW)
  exact ⟨h.bn.below hb h.bn.lt, h.bp.below hb h.bp.lt, IsNd.keep (fun x hx => ⟨hx, hb.block x (by omega)⟩) _ _ h.nd, h.path.keep (fun x hx => ⟨⟨Nat.lt_of_lt_of_le hx.1 hb.size, fun e => hx.2 ((hc x).1 e)⟩, hb.block x hx.1⟩), fun e => h.hn ((hc _).1 e), fun e => h.hp ((hc _).1 e), fun k hk => Nat.lt_of_lt_of_le (h.wf k ((hc k).1 hk)) hb.size⟩
theorem EV.kq {n₀ b Bn Bp : Nat} {d : Nd} {k : Int} {s : ByteArray} {y : Option Addr} {m c : Nat} {pa : Option Addr} {pc : Nat} {path : List Int} {W W' : World} (h : EV n₀ b Bn Bp d k s y m c pa pc path W) (hk : Kq n₀ b W W') : EV n₀ b Bn Bp d k s y m c pa pc path W' := by
  have hno : ∀ x, x < W.heap.size → ¬ Ow b W x → ¬ Ow b W' x := fun x hx hn e => by
    rcases hk.own x e with e | e
    · exact hn e
    · omega
  refine ⟨hk.blk h.bn h.hn, hk.blk h.bp h.hp, IsNd.keep (fun x hx => ⟨hx, hk.below.block x hx⟩) _ _ h.nd, h.path.keep (fun x hx => ⟨⟨Nat.lt_of_lt_of_le hx.1 hk.recs.size, hno x hx.1 hx.2⟩, hk.keep x hx.1 hx.2⟩), hno _ h.bn.lt h.hn, hno _ h.bp.lt h.hp, hk.wf h.wf⟩

theorem Kq.not_own {n₀ b g : Nat} {X Y : World} (h : Kq n₀ b X Y) (hg : g < X.heap.size) (hn : ¬ Ow b X g) : ¬ Ow b Y g := fun e => (h.own g e).elim hn (by omega)
theorem no_own {b g : Nat} {X Y : World} (hb : Below X.heap.size X Y) (hbX : b < X.heap.size) (hn : ¬ Ow b X g) : ¬ Ow b Y g := fun e => hn ((Ow.congr (hb.block b hbX) g).1 e)
theorem OwnP.lower {w : World} {B B' : Nat} {v : Value} {p : List Int} (h : OwnP w B v p) (hB : B' ≤ B) : OwnP w B' v p := by
  obtain ⟨h1, h2⟩ := h
  refine ⟨h1, ?_⟩
  rcases h2 with hn | ⟨g, cap, cur, hv, hb, rest⟩
  · exact .inl hn
  · exact .inr ⟨g, cap, cur, hv, Nat.le_trans hB hb, rest⟩
/-- 'append(p, i)', the literal made before. -/
theorem snoc_at {B g : Nat} {w : World} (i : Int) {v : Value} {p : List Int} (h : OwnP w B v p) (hg : Blk w g 3 #[.int .i64 i]) (hl : p.length ≤ 900000) (hB : B ≤ w.heap.size) :
    ∃ a c w2, (Builtin.append_ #[25, 25] 25 #[v, .slice (some ⟨g, 0, none⟩) 1 1]).run Tryz.prog w = .ok (.slice a (p.length + 1) c) w2 ∧ OwnP w2 B (.slice a (p.length + 1) c) (p ++ [i]) ∧ Below B w w2 := by
  obtain ⟨v', w', hr, hown, hgr, hblk⟩ := app_run (ty := 25) Tryz.underlying25 infoInt rfl (by decide) (by decide) h g 0 1 1 [.int .i64 i] rfl (fun j u hu => by rw [Nat.zero_add, hg.cell j]; simpa using hu) (by simp [Value.oneCell']) (by omega) (by decide) hB
  obtain ⟨a, c, rfl⟩ := own_form hown
  exact ⟨a, c, w', hr, by rw [OwnP, List.length_append, List.map_append]; exact hown, (Below.refl B w).grown hgr hB (fun r hr => (World.ownsRow.lt h r hr).1)⟩
/-- The variables of a Kid's iterator. -/
theorem EV.kid {n₀ b Bn Bp : Nat} {d x : Nd} {k : Int} {s : ByteArray} {y : Option Addr} {m c : Nat} {pa : Option Addr} {pc : Nat} {path p' : List Int} {W wr W3 w6 : World} {a6 : Option Addr} {c6 : Nat} {k' : Int} {s' : ByteArray} {y' : Option Addr} {m' c' : Nat}
    (hE : EV n₀ b Bn Bp d k s y m c pa pc path wr) (hK : Kq n₀ b W wr) (h3 : Below wr.heap.size wr W3) (h6 : Below W3.heap.size W3 w6) (hbw : b < wr.heap.size) (hn : n₀ ≤ wr.heap.size) (hc : IsNd W (· < n₀) x (.agg #[.int .i64 k', .string s', .slice y' m' c'])) (ho : OwnP w6 W3.heap.size (.slice a6 (path.length + 1) c6) p') (hl : p'.length = path.length + 1 := by simp) :
    Below wr.heap.size wr ((w6.alloc (.cells #[.int .i64 k', .string s', .slice y' m' c'] 24)).alloc (.cells #[.slice a6 (path.length + 1) c6] 25)) ∧
    EV n₀ b w6.heap.size (w6.heap.size + 1) x k' s' y' m' c' a6 c6 p' ((w6.alloc (.cells #[.int .i64 k', .string s', .slice y' m' c'] 24)).alloc (.cells #[.slice a6 (path.length + 1) c6] 25)) := by
  have hz3 := h3.size
  have hz6 := h6.size
  have hb6 : Below wr.heap.size wr w6 := h3.trans (h6.mono hz3)
  have hb8 : Below wr.heap.size wr ((w6.alloc (.cells #[.int .i64 k', .string s', .slice y' m' c'] 24)).alloc (.cells #[.slice a6 (path.length + 1) c6] 25)) := (hb6.alloc hb6.size _).alloc (by simp; omega) _
  have h68 : Below w6.heap.size w6 ((w6.alloc (.cells #[.int .i64 k', .string s', .slice y' m' c'] 24)).alloc (.cells #[.slice a6 (path.length + 1) c6] 25)) := ((Below.refl _ w6).alloc (Nat.le_refl _) _).alloc (by simp) _
  have hlt : ∀ g, Ow b ((w6.alloc (.cells #[.int .i64 k', .string s', .slice y' m' c'] 24)).alloc (.cells #[.slice a6 (path.length + 1) c6] 25)) g → g < wr.heap.size := fun g e => hE.wf g ((Ow.congr (hb8.block b hbw) g).1 e)
  refine ⟨hb8, (Blk.new w6 _ _).alloc _, ?_, IsNd.keep (fun g hg => ⟨hg, (hb8.block g (by omega)).trans (hK.below.block g hg)⟩) _ _ hc, ?_, fun e => by have := hlt _ e; omega, fun e => by have := hlt _ e; omega, fun g e => by have := hlt g e; have := hb8.size; omega⟩
  rotate_left
  · rw [hl]
    exact ho.path.keep fun g hg => ⟨⟨by have := hg.2; have := h68.size; omega, fun e => by have := hlt g e; have := hg.1; omega⟩, h68.block g hg.2⟩
  rw [hl]
  have := Blk.new (w6.alloc (.cells #[.int .i64 k', .string s', .slice y' m' c'] 24)) 25 #[.slice a6 (path.length + 1) c6]
  rw [World.size_alloc] at this
  exact this

def EachOk (d : Nd) : Prop := ∀ (n₀ b Bn Bp : Nat) (k : Int) (s : ByteArray) (y : Option Addr) (m c : Nat) (pa : Option Addr) (pc : Nat) (path : List Int) (W : World), EV n₀ b Bn Bp d k s y m c pa pc path W → n₀ ≤ b → b < W.heap.size → path.length + d.count ≤ 900000 → SeqPath Tryz.prog 51 Bn Bp n₀ b (eachL path d) W

set_option maxRecDepth 100000 in
set_option maxHeartbeats 4000000 in
theorem eachIt_any (d : Nd) : EachOk d := by
  refine Nd.ind_ (P := EachOk) ?_ d
  intro k0 s0 ks IH n₀ b Bn Bp k s y m c pa pc path W hE hn hb hcnt l pre0 J Jx hJ hJx hY h0
  have hmk := hE.nd.out
  obtain ⟨hm, hml, hsl, hkk, -⟩ := hmk
  obtain rfl : k0 = k := hkk
  have HBR := hide (show (Nd.mk k0 s0 ks).br = isBr k0 ks.len from rfl)
  have HI := hide IH
  have HL := hide (eachL_mk path k0 s0 ks)
  have hcm := fun d h => count_mem (ks := ks) (d := d) h
  rw [count_mk] at hcnt
  have hpl : path.length ≤ 900000 := by omega
  have HCM := hide (fun d (h : d ∈ ks.toL) => (show (path ++ [(0 : Int)]).length + d.count ≤ 900000 by have := hcm d h; simp; omega))
  obtain ⟨br, hbr⟩ : ∃ br, (Nd.mk k0 s0 ks).br = br := ⟨_, rfl⟩
  have hbe : isBr k0 ks.len = br := hbr
  rw [HL.out, hbe] at hY ⊢
  rw [show (Nd.mk k0 s0 ks).kids = ks.toL from rfl] at hm hml hsl
  have HBC := hide (fun (W : World) (F : Nat → Prop) (h : IsNd W F (Nd.mk k0 s0 ks) (.agg #[.int .i64 k0, .string s, .slice y m c])) => bracketB_any (w := W) h)
  rw [hbr] at HBC
  have HE := hide hE
  clear IH hE hcm hbr hbe HBR HL hcnt
  obtain ⟨ds, hds⟩ : ∃ ds, ks.toL = ds := ⟨_, rfl⟩
  rw [hds] at hm hml hsl HI HCM hY ⊢
  clear hds
  obtain ⟨pb, hpb⟩ : ∃ pb, (if br = true then [path] else []) = pb := ⟨_, rfl⟩
  rw [hpb] at hY ⊢
  have HPB := hide hpb
  clear hpb
  subst hm
  simp only [maxLen] at hml
  have HSL := hide hsl
  have HY := hide hY
  have HH := hide h0
  have hn0 : n₀ ≤ W.heap.size := by omega
  clear hY h0 hsl
  obtain ⟨W1, hW1⟩ : ∃ W1, W.alloc (.cells #[.func (.yield l) #[] #[]] 77) = W1 := ⟨_, rfl⟩
  have hbW : Below W.heap.size W W1 := hW1 ▸ (Below.refl _ W).alloc (Nat.le_refl _) _
  have HX1 := hide (show Blk W1 W.heap.size 77 #[.func (.yield l) #[] #[]] from hW1 ▸ Blk.new W _ _)
  have HE1 := hide (HE.out.below hbW hb hn0)
  have HB1 := hide hbW
  clear hbW
  refine callsIn_of_wp_marks Tryz.func51 rfl trivial ?_ rfl
  simp only [Tryz.ntmps51, List.size_toArray, List.length_cons, List.length_nil, Nat.reduceAdd, Nat.reduceSub, Array.replicate_succ, Array.replicate_zero, List.push_toArray, List.append_toArray, List.nil_append, List.cons_append]
  gi_wp2
  refine wpIn_mono (Q := fun e a' w' => e = .normal ∧ ∃ (u10 u11 u12 u13 u14 : Value) (bb : Bool), a' = { tmps := #[.func (.yield l) #[] #[], .pointer (some ⟨Bn, 0, none⟩), .pointer (some ⟨Bp, 0, none⟩), .pointer (some ⟨W.heap.size, 0, none⟩), undef, undef, undef, .agg #[.int .i64 k0, .string s, .slice y ds.length c], .bool br, .bool br, u10, u11, u12, u13, u14, .bool bb, undef, undef, undef, undef, undef, undef, undef, undef, undef, undef, undef, undef, undef, undef, undef, undef, undef, undef, undef, undef, undef], defers := [] } ∧ ((bb = true ∧ Jx (pre0 ++ [path]) w') ∨ (bb = false ∧ J (pre0 ++ pb) w' ∧ Kq n₀ b W w' ∧ EV n₀ b Bn Bp (Nd.mk k0 s0 ks) k0 s y ds.length c pa pc path w' ∧ Blk w' W.heap.size 77 #[.func (.yield l) #[] #[]] ∧ ¬ Ow b w' W.heap.size))) ?_ ?_
  · have hlx := HX1.out.lt
    obtain ⟨W2, hW2⟩ : ∃ W2, W1.drew = W2 := ⟨_, rfl⟩
    have hb2 : Below W.heap.size W W2 := hW2 ▸ bl_dr HB1.out
    have HE2 := hide (HE.out.below hb2 hb hn0)
    have HX2 := hide (show Blk W2 W.heap.size 77 #[.func (.yield l) #[] #[]] from hW2 ▸ HX1.out)
    have hlx2 : W.heap.size < W2.heap.size := HX2.out.lt
    clear HX1 HE1 HB1 hlx
    obtain ⟨p0, p1, p2, -⟩ := HE2.out.bn.see3
    have HBC2 := hide (HBC.out W2 _ HE2.out.nd)
    clear HBC
    have hlb : b < W2.heap.size := by omega
    have HNO := hide (fun e => Nat.lt_irrefl _ (HE.out.wf W.heap.size e) : ¬ Ow b W W.heap.size)
    cases br with
    | false =>
      obtain rfl : [] = pb := by simpa using HPB.out
      refine wpIn_wide.2 ?_
      refine wp_region_held_drew (S := fun w' => w'.cell? ⟨Bn, 0, none⟩ = some (.int .i64 k0) ∧ w'.cell? ⟨Bn, 1, none⟩ = some (.string s) ∧ w'.cell? ⟨Bn, 2, none⟩ = some (.slice y ds.length c)) (by kernel_rfl) ?_ (fun hHeld => ?_)
      · rw [hW2]; exact ⟨p0, p1, p2⟩
      rw [hW2]
      clear hHeld hW2 hW1
      have hSn := And.intro p0 (And.intro p1 p2)
      refine takeH (i := 0) (v := ?_) rfl (by kernel_rfl) (by kernel_rfl) (by kernel_rfl) (fun _ _ _ h => nomatch h.1) (by rfl) (by assumption) (fun w hSw => ?_) ?_; rotate_left
      · (try dsimp only at hSw); (try go_split_ands); go_simp; all_goals with_reducible rfl
      try simp only [Act.put, List.getElem_toArray, List.getElem_cons_zero, List.setIfInBounds_toArray, List.set_cons_zero, List.set_cons_succ]
      refine wpAnyH_ready (rs := [1]) (by kernel_rfl) (by simp) ?_
      refine AllReadyH.cons rfl (fun K hK => ?_) AllReadyH.nil
      clear hSn
      go_simp
      refine HBC2.out.mono ?_
      rintro e w3 ⟨rfl, hb3⟩
      have HE3 := hide (HE2.out.below hb3 hlb (by omega))
      have HX3 := hide (HX2.out.below hb3 hlx2)
      have HB3 := hide (hb2.trans (hb3.mono hb2.size))
      have hlx := HX3.out.lt
      clear hb2 hb3 HE2 HX2 HBC2 p0 p1 p2
      have hSn := show w3.cell? ⟨Bn, 0, none⟩ = some (.int .i64 k0) ∧ w3.cell? ⟨Bn, 1, none⟩ = some (.string s) ∧ w3.cell? ⟨Bn, 2, none⟩ = some (.slice y ds.length c) from ⟨HE3.out.bn.cell 0, HE3.out.bn.cell 1, HE3.out.bn.cell 2⟩
      have HSn := hide hSn
      clear hSn
      go_simp
      refine hK.out _ _ HSn.out (fun hHeld => ?_)
      clear hK K
      refine takeH (i := 2) (v := ?_) rfl (by kernel_rfl) (by kernel_rfl) (by kernel_rfl) (fun _ _ _ h => nomatch h.1) (by rfl) (by assumption) (fun w hSw => ?_) ?_; rotate_left
      · (try dsimp only at hSw); (try go_split_ands); go_simp; all_goals with_reducible rfl
      try simp only [Act.put, List.getElem_toArray, List.getElem_cons_zero, List.getElem_cons_succ, List.setIfInBounds_toArray, List.set_cons_zero, List.set_cons_succ]
      refine wpAnyH_take (i := 3) (v := undef) rfl (by kernel_rfl) (by kernel_rfl) (by kernel_rfl) (fun _ _ _ h => nomatch h.1) (Or.inr ⟨by rfl, rfl⟩) (by assumption) ?_
      try simp only [Act.put, List.getElem_toArray, List.getElem_cons_zero, List.getElem_cons_succ, List.setIfInBounds_toArray, List.set_cons_zero, List.set_cons_succ]
      refine wpAnyH_take (i := 4) (v := undef) rfl (by kernel_rfl) (by kernel_rfl) (by kernel_rfl) (fun _ _ _ h => nomatch h.1) (Or.inr ⟨by rfl, rfl⟩) (by assumption) ?_
      try simp only [Act.put, List.getElem_toArray, List.getElem_cons_zero, List.getElem_cons_succ, List.setIfInBounds_toArray, List.set_cons_zero, List.set_cons_succ]
      refine wpAnyH_take (i := 5) (v := undef) rfl (by kernel_rfl) (by kernel_rfl) (by kernel_rfl) (fun _ _ _ h => nomatch h.1) (Or.inr ⟨by rfl, rfl⟩) (by assumption) ?_
      try simp only [Act.put, List.getElem_toArray, List.getElem_cons_zero, List.getElem_cons_succ, List.setIfInBounds_toArray, List.set_cons_zero, List.set_cons_succ]
      refine wpAnyH_take (i := 6) (v := undef) rfl (by kernel_rfl) (by kernel_rfl) (by kernel_rfl) (fun _ _ _ h => nomatch h.1) (Or.inr ⟨by rfl, rfl⟩) (by assumption) ?_
      try simp only [Act.put, List.getElem_toArray, List.getElem_cons_zero, List.getElem_cons_succ, List.setIfInBounds_toArray, List.set_cons_zero, List.set_cons_succ]
      refine wpAnyH_take (i := 7) (v := undef) rfl (by kernel_rfl) (by kernel_rfl) (by kernel_rfl) (fun _ _ _ h => nomatch h.1) (Or.inr ⟨by rfl, rfl⟩) (by assumption) ?_
      try simp only [Act.put, List.getElem_toArray, List.getElem_cons_zero, List.getElem_cons_succ, List.setIfInBounds_toArray, List.set_cons_zero, List.set_cons_succ]
      refine takeH (i := 8) (v := ?_) rfl (by kernel_rfl) (by kernel_rfl) (by kernel_rfl) (fun _ _ _ h => nomatch h.1) (by rfl) (by assumption) (fun w hSw => ?_) ?_; rotate_left
      · (try dsimp only at hSw); (try go_split_ands); go_simp; all_goals with_reducible rfl
      try simp only [Act.put, List.getElem_toArray, List.getElem_cons_zero, List.getElem_cons_succ, List.setIfInBounds_toArray, List.set_cons_zero, List.set_cons_succ]
      refine wpAnyH_done (by kernel_rfl) ?_ _
      exact ⟨rfl, _, _, _, _, _, _, rfl, Or.inr ⟨rfl, by simpa using OwnFrom.below_ hJ HB3.out HH.out, Kq.of_below HB3.out hn0 hb, HE3.out, HX3.out, no_own HB3.out hb HNO.out⟩⟩
    | true =>
      obtain rfl : [path] = pb := by simpa using HPB.out
      refine wpIn_region_any (by kernel_rfl) ?_
      change wpAnyIn _ _ _ _ _ _ _ _ _ (World.drew _)
      rw [hW2]
      clear hW2 hW1
      refine wpAnyIn_ready (rs := [0]) (by kernel_rfl) (by simp) ?_
      refine AllReadyIn.cons rfl (fun K hK => ?_) (AllReadyIn.nil)
      have HK := hide hK
      clear hK
      go_simp
      refine HK.out _ _ ?_
      clear HK K
      refine wpAnyIn_ready (rs := [1]) (by kernel_rfl) (by simp) ?_
      refine AllReadyIn.cons rfl (fun K hK => ?_) (AllReadyIn.nil)
      have HK := hide hK
      clear hK
      go_simp
      refine ⟨trivial, rfl, (callsIn_wide.2 HBC2.out).mono ?_⟩
      rintro e w3 ⟨rfl, hb3⟩
      have HE3 := hide (HE2.out.below hb3 hlb (by omega))
      have HX3 := hide (HX2.out.below hb3 hlx2)
      have HB3 := hide (hb2.trans (hb3.mono hb2.size))
      have hlx := HX3.out.lt
      clear hb2 hb3 HE2 HX2 HBC2 p0 p1 p2
      go_simp
      refine HK.out _ _ ?_
      clear HK K
      refine wpAnyIn_ready (rs := [2]) (by kernel_rfl) (by simp) ?_
      refine AllReadyIn.cons rfl (fun K hK => ?_) (AllReadyIn.nil)
      have HK := hide hK
      clear hK
      go_simp
      refine HK.out _ _ ?_
      clear HK K
      have HPP := hide HE3.out.path
      have HP3 := hide (show IsPath w3 (· < w3.heap.size) (.slice pa path.length pc) path from HE3.out.path.keep fun _ h => ⟨h.1, rfl⟩)
      have x3 := HX3.out.one.1
      have q3 := HE3.out.bp.one.1
      have hpre : pre0 ++ [path] = pre0 ++ [path] := rfl
      have hpref : pre0 ++ [path] <+: pre0 ++ ([path] ++ eachLs path 0 ds) := ⟨eachLs path 0 ds, by simp⟩
      have hfq : ∀ {w4 : World} {v : Value}, OwnP w4 w3.heap.size v path → Below w3.heap.size w3 w4 → IsPath w4 (Fq W.heap.size b w4) v path := fun h h4 => h.path.keep fun k hk => ⟨⟨by have := HB3.out.size; have := hk.1; omega, hk.2, fun e => by
        have := HE3.out.wf k ((Ow.congr (h4.block b (by have := HB3.out.size; omega)) k).1 e)
        have := hk.1
        omega⟩, rfl⟩
      refine wpAnyIn_ready (rs := [3, 4]) (by kernel_rfl) (by simp) ?_
      refine AllReadyIn.cons rfl (fun K hK => ?_) (AllReadyIn.cons rfl (fun K hK => ?_) AllReadyIn.nil)
      ·
        have HK := hide hK
        clear hK
        go_simp
        refine HK.out _ _ ?_
        clear HK K
        refine wpAnyIn_ready (rs := [4]) (by kernel_rfl) (by simp) ?_
        refine AllReadyIn.cons rfl (fun K hK => ?_) (AllReadyIn.nil)
        have HK := hide hK
        clear hK
        go_simp
        refine HK.out _ _ ?_
        clear HK K
        refine wpAnyIn_ready (rs := [5]) (by kernel_rfl) (by simp) ?_
        refine AllReadyIn.cons rfl (fun K hK => ?_) (AllReadyIn.nil)
        have HK := hide hK
        clear hK
        go_simp
        refine ⟨trivial, rfl, (callsIn_wide.2 (clone_any (w := w3) HP3.out hpl)).mono ?_⟩
        rintro e w4 ⟨va, vc, rfl, hown, hb4⟩
        have HC := hide hown
        replace x3 := (Below.cell hb4 (p := ⟨W.heap.size, 0, none⟩) hlx).trans x3
        clear hown
        refine HK.out _ _ ?_
        clear HK K
        refine wpAnyIn_ready (rs := [6]) (by kernel_rfl) (by simp) ?_
        refine AllReadyIn.cons rfl (fun K hK => ?_) (AllReadyIn.nil)
        obtain ⟨fn, tmps, assign, body, hy, hR⟩ := HY.out pre0 path (.slice va path.length vc) w4 (OwnFrom.below_ hJ (HB3.out.trans (hb4.mono HB3.out.size)) HH.out) (hfq HC.out hb4) (by have := HB3.out.size; have := hb4.size; omega) (by rw [hpre]; exact hpref)
        have HK := hide hK
        clear hK
        go_simp
        refine ⟨rfl, hR.mono ?_⟩
        rintro e W' (⟨rfl, hJ', hk'⟩ | ⟨rfl, hJx', -⟩)
        ·
          go_simp
          refine HK.out _ _ ?_
          clear HK K
          refine wpAnyIn_ready (rs := [7]) (by kernel_rfl) (by simp) ?_
          refine AllReadyIn.cons rfl (fun K hK => ?_) (AllReadyIn.nil)
          have HK := hide hK
          clear hK
          go_simp
          refine HK.out _ _ ?_
          clear HK K
          refine wpAnyIn_ready (rs := [8]) (by kernel_rfl) (by simp) ?_
          refine AllReadyIn.cons rfl (fun K hK => ?_) (AllReadyIn.nil)
          have HK := hide hK
          clear hK
          go_simp
          refine HK.out _ _ ?_
          clear HK K
          refine wpAnyIn_done (by kernel_rfl) ?_ _
          exact ⟨rfl, _, _, _, _, _, _, rfl, Or.inr ⟨rfl, hJ', (Kq.of_below (HB3.out.trans (hb4.mono HB3.out.size)) hn0 hb).trans hk', (HE3.out.below hb4 (by omega) (by omega)).kq hk', hk'.blk (HX3.out.below hb4 hlx) (no_own (HB3.out.trans (hb4.mono HB3.out.size)) hb HNO.out), hk'.not_own (by have := HX3.out.lt; have := hb4.size; omega) (no_own (HB3.out.trans (hb4.mono HB3.out.size)) hb HNO.out)⟩⟩
        ·
          go_simp
          refine HK.out _ _ ?_
          clear HK K
          refine wpAnyIn_ready (rs := [7]) (by kernel_rfl) (by simp) ?_
          refine AllReadyIn.cons rfl (fun K hK => ?_) (AllReadyIn.nil)
          have HK := hide hK
          clear hK
          go_simp
          refine HK.out _ _ ?_
          clear HK K
          refine wpAnyIn_ready (rs := [8]) (by kernel_rfl) (by simp) ?_
          refine AllReadyIn.cons rfl (fun K hK => ?_) (AllReadyIn.nil)
          have HK := hide hK
          clear hK
          go_simp
          refine HK.out _ _ ?_
          clear HK K
          refine wpAnyIn_done (by kernel_rfl) ?_ _
          exact ⟨rfl, _, _, _, _, _, _, rfl, Or.inl ⟨rfl, hJx'⟩⟩
      ·
        have HK := hide hK
        clear hK
        go_simp
        refine HK.out _ _ ?_
        clear HK K
        refine wpAnyIn_ready (rs := [3, 5]) (by kernel_rfl) (by simp) ?_
        refine AllReadyIn.cons rfl (fun K hK => ?_) (AllReadyIn.cons rfl (fun K hK => ?_) AllReadyIn.nil)
        ·
          have HK := hide hK
          clear hK
          go_simp
          refine HK.out _ _ ?_
          clear HK K
          refine wpAnyIn_ready (rs := [5]) (by kernel_rfl) (by simp) ?_
          refine AllReadyIn.cons rfl (fun K hK => ?_) (AllReadyIn.nil)
          have HK := hide hK
          clear hK
          go_simp
          refine ⟨trivial, rfl, (callsIn_wide.2 (clone_any (w := w3) HP3.out hpl)).mono ?_⟩
          rintro e w4 ⟨va, vc, rfl, hown, hb4⟩
          have HC := hide hown
          replace x3 := (Below.cell hb4 (p := ⟨W.heap.size, 0, none⟩) hlx).trans x3
          clear hown
          refine HK.out _ _ ?_
          clear HK K
          refine wpAnyIn_ready (rs := [6]) (by kernel_rfl) (by simp) ?_
          refine AllReadyIn.cons rfl (fun K hK => ?_) (AllReadyIn.nil)
          obtain ⟨fn, tmps, assign, body, hy, hR⟩ := HY.out pre0 path (.slice va path.length vc) w4 (OwnFrom.below_ hJ (HB3.out.trans (hb4.mono HB3.out.size)) HH.out) (hfq HC.out hb4) (by have := HB3.out.size; have := hb4.size; omega) (by rw [hpre]; exact hpref)
          have HK := hide hK
          clear hK
          go_simp
          refine ⟨rfl, hR.mono ?_⟩
          rintro e W' (⟨rfl, hJ', hk'⟩ | ⟨rfl, hJx', -⟩)
          ·
            go_simp
            refine HK.out _ _ ?_
            clear HK K
            refine wpAnyIn_ready (rs := [7]) (by kernel_rfl) (by simp) ?_
            refine AllReadyIn.cons rfl (fun K hK => ?_) (AllReadyIn.nil)
            have HK := hide hK
            clear hK
            go_simp
            refine HK.out _ _ ?_
            clear HK K
            refine wpAnyIn_ready (rs := [8]) (by kernel_rfl) (by simp) ?_
            refine AllReadyIn.cons rfl (fun K hK => ?_) (AllReadyIn.nil)
            have HK := hide hK
            clear hK
            go_simp
            refine HK.out _ _ ?_
            clear HK K
            refine wpAnyIn_done (by kernel_rfl) ?_ _
            exact ⟨rfl, _, _, _, _, _, _, rfl, Or.inr ⟨rfl, hJ', (Kq.of_below (HB3.out.trans (hb4.mono HB3.out.size)) hn0 hb).trans hk', (HE3.out.below hb4 (by omega) (by omega)).kq hk', hk'.blk (HX3.out.below hb4 hlx) (no_own (HB3.out.trans (hb4.mono HB3.out.size)) hb HNO.out), hk'.not_own (by have := HX3.out.lt; have := hb4.size; omega) (no_own (HB3.out.trans (hb4.mono HB3.out.size)) hb HNO.out)⟩⟩
          ·
            go_simp
            refine HK.out _ _ ?_
            clear HK K
            refine wpAnyIn_ready (rs := [7]) (by kernel_rfl) (by simp) ?_
            refine AllReadyIn.cons rfl (fun K hK => ?_) (AllReadyIn.nil)
            have HK := hide hK
            clear hK
            go_simp
            refine HK.out _ _ ?_
            clear HK K
            refine wpAnyIn_ready (rs := [8]) (by kernel_rfl) (by simp) ?_
            refine AllReadyIn.cons rfl (fun K hK => ?_) (AllReadyIn.nil)
            have HK := hide hK
            clear hK
            go_simp
            refine HK.out _ _ ?_
            clear HK K
            refine wpAnyIn_done (by kernel_rfl) ?_ _
            exact ⟨rfl, _, _, _, _, _, _, rfl, Or.inl ⟨rfl, hJx'⟩⟩
        ·
          have HK := hide hK
          clear hK
          go_simp
          refine ⟨trivial, rfl, (callsIn_wide.2 (clone_any (w := w3) HP3.out hpl)).mono ?_⟩
          rintro e w4 ⟨va, vc, rfl, hown, hb4⟩
          have HC := hide hown
          replace x3 := (Below.cell hb4 (p := ⟨W.heap.size, 0, none⟩) hlx).trans x3
          clear hown
          refine HK.out _ _ ?_
          clear HK K
          refine wpAnyIn_ready (rs := [3]) (by kernel_rfl) (by simp) ?_
          refine AllReadyIn.cons rfl (fun K hK => ?_) (AllReadyIn.nil)
          have HK := hide hK
          clear hK
          go_simp
          refine HK.out _ _ ?_
          clear HK K
          refine wpAnyIn_ready (rs := [6]) (by kernel_rfl) (by simp) ?_
          refine AllReadyIn.cons rfl (fun K hK => ?_) (AllReadyIn.nil)
          obtain ⟨fn, tmps, assign, body, hy, hR⟩ := HY.out pre0 path (.slice va path.length vc) w4 (OwnFrom.below_ hJ (HB3.out.trans (hb4.mono HB3.out.size)) HH.out) (hfq HC.out hb4) (by have := HB3.out.size; have := hb4.size; omega) (by rw [hpre]; exact hpref)
          have HK := hide hK
          clear hK
          go_simp
          refine ⟨rfl, hR.mono ?_⟩
          rintro e W' (⟨rfl, hJ', hk'⟩ | ⟨rfl, hJx', -⟩)
          ·
            go_simp
            refine HK.out _ _ ?_
            clear HK K
            refine wpAnyIn_ready (rs := [7]) (by kernel_rfl) (by simp) ?_
            refine AllReadyIn.cons rfl (fun K hK => ?_) (AllReadyIn.nil)
            have HK := hide hK
            clear hK
            go_simp
            refine HK.out _ _ ?_
            clear HK K
            refine wpAnyIn_ready (rs := [8]) (by kernel_rfl) (by simp) ?_
            refine AllReadyIn.cons rfl (fun K hK => ?_) (AllReadyIn.nil)
            have HK := hide hK
            clear hK
            go_simp
            refine HK.out _ _ ?_
            clear HK K
            refine wpAnyIn_done (by kernel_rfl) ?_ _
            exact ⟨rfl, _, _, _, _, _, _, rfl, Or.inr ⟨rfl, hJ', (Kq.of_below (HB3.out.trans (hb4.mono HB3.out.size)) hn0 hb).trans hk', (HE3.out.below hb4 (by omega) (by omega)).kq hk', hk'.blk (HX3.out.below hb4 hlx) (no_own (HB3.out.trans (hb4.mono HB3.out.size)) hb HNO.out), hk'.not_own (by have := HX3.out.lt; have := hb4.size; omega) (no_own (HB3.out.trans (hb4.mono HB3.out.size)) hb HNO.out)⟩⟩
          ·
            go_simp
            refine HK.out _ _ ?_
            clear HK K
            refine wpAnyIn_ready (rs := [7]) (by kernel_rfl) (by simp) ?_
            refine AllReadyIn.cons rfl (fun K hK => ?_) (AllReadyIn.nil)
            have HK := hide hK
            clear hK
            go_simp
            refine HK.out _ _ ?_
            clear HK K
            refine wpAnyIn_ready (rs := [8]) (by kernel_rfl) (by simp) ?_
            refine AllReadyIn.cons rfl (fun K hK => ?_) (AllReadyIn.nil)
            have HK := hide hK
            clear hK
            go_simp
            refine HK.out _ _ ?_
            clear HK K
            refine wpAnyIn_done (by kernel_rfl) ?_ _
            exact ⟨rfl, _, _, _, _, _, _, rfl, Or.inl ⟨rfl, hJx'⟩⟩
  · rintro e a' Wm ⟨rfl, u10, u11, u12, u13, u14, bb, rfl, hcase⟩
    rcases hcase with ⟨rfl, hJx1⟩ | ⟨rfl, hJ1, hk1, hE1, hX1, hNo1⟩
    · gi_wp2
      exact ⟨_, results_none rfl _ _ _, ⟨_, rfl⟩, Or.inr ⟨_, hJx1⟩⟩
    have HEm := hide hE1
    have HXm := hide hX1
    have HJm := hide hJ1
    obtain ⟨p0, p1, p2, -⟩ := hE1.bn.see3
    have hlW : W.heap.size < Wm.heap.size := hX1.lt
    clear hE1 hX1 hJ1 HX1 HE1 HB1 hW1 HBC
    gi_wp2
    clear p0 p1 p2
    obtain ⟨pre1, hpre1⟩ : ∃ pre1, pre0 ++ pb = pre1 := ⟨_, rfl⟩
    have HPR := hide (show pre0 ++ (pb ++ eachLs path 0 ds) = pre1 ++ eachLs path 0 ds by rw [← hpre1, List.append_assoc])
    rw [hpre1] at HJm
    rw [HPR.out] at HY
    clear hpre1
    refine wpIn_loop (fun a' wr => ∃ (q : Nat) (Ds : List Nat) (u4 u5 u6 u20 u21 u22 u23 u24 u25 u26 u27 u28 u29 u30 u31 u32 u33 u34 u35 u36 : Value), a' = { tmps := #[.func (.yield l) #[] #[], .pointer (some ⟨Bn, 0, none⟩), .pointer (some ⟨Bp, 0, none⟩), .pointer (some ⟨W.heap.size, 0, none⟩), u4, u5, u6, .agg #[.int .i64 k0, .string s, .slice y ds.length c], .bool br, .bool br, u10, u11, u12, u13, u14, .bool false, .pointer (some ⟨Bn, 2, none⟩), .slice y ds.length c, .int .i64 ds.length, .int .i64 q, u20, u21, u22, u23, u24, u25, u26, u27, u28, u29, u30, u31, u32, u33, u34, u35, u36], defers := marks Ds } ∧
        q ≤ ds.length ∧ J (pre1 ++ eachLs path 0 (ds.take q)) wr ∧ Kq n₀ b W wr ∧ Ds.Nodup ∧ Open_ W.heap.size Ds wr ∧ Blk wr W.heap.size 77 #[.func (.yield l) #[] #[]] ∧ EV n₀ b Bn Bp (Nd.mk k0 s0 ks) k0 s y ds.length c pa pc path wr ∧ ¬ Ow b wr W.heap.size) (fun a' _ => ds.length - (intOf (a'.tmps.getD 19 undef)).toNat) ?start ?round
    case start => exact ⟨0, [], _, _, _, _, _, _, _, _, _, _, _, _, _, _, _, _, _, _, _, _, rfl, Nat.zero_le _, by simpa [eachLs] using HJm.out, hk1, List.nodup_nil, fun D h => (by simp at h), HXm.out, HEm.out, hNo1⟩
    case round =>
      rintro a' wr ⟨q, Ds, u4, u5, u6, u20, u21, u22, u23, u24, u25, u26, u27, u28, u29, u30, u31, u32, u33, u34, u35, u36, rfl, hq, hJq, hkq, hnd, hDs, hbx, hEq, hNo⟩
      have HJ := hide hJq
      have HDs := hide hDs
      have HBX := hide hbx
      have HND := hide hnd
      have HEq := hide hEq
      have hszq := hkq.below.size
      have hszr := hkq.recs.size
      have HKQ := hide hkq
      clear hJq hDs hbx hnd hEq hkq hk1 HXm HJm HEm
      by_cases hlt : q < ds.length
      · obtain ⟨bk, o, cap2, k', s', y', m', c', hv, hFb, g0, g1, g2, hc⟩ := HSL.out.kid hlt
        cases hv
        have HC := hide hc
        replace g0 := (Below.cell HKQ.out.below (p := ⟨bk, o + q * 3, none⟩) hFb).trans g0
        replace g1 := (Below.cell HKQ.out.below (p := ⟨bk, o + q * 3 + 1, none⟩) hFb).trans g1
        replace g2 := (Below.cell HKQ.out.below (p := ⟨bk, o + q * 3 + 2, none⟩) hFb).trans g2
        clear hc
        gi_wp2
        clear g0 g1 g2
        obtain ⟨W2, hW2⟩ : ∃ W2, wr.alloc (.cells #[.int .i64 k', .string s', .slice y' m' c'] 24) = W2 := ⟨_, rfl⟩
        have hb2 : Below wr.heap.size wr W2 := hW2 ▸ (Below.refl _ wr).alloc (Nat.le_refl _) _
        have HN2 := hide (show Blk W2 wr.heap.size 24 #[.int .i64 k', .string s', .slice y' m' c'] from hW2 ▸ Blk.new wr _ _)
        rw [hW2]
        clear hW2
        refine wpIn_mono (Q := fun e a' w' => e = .normal ∧ ∃ (v24 v25 v26 v27 v28 v29 : Value) (N : Nat) (pa' : Option Addr) (pc' : Nat), a' = { tmps := #[.func (.yield l) #[] #[], .pointer (some ⟨Bn, 0, none⟩), .pointer (some ⟨Bp, 0, none⟩), .pointer (some ⟨W.heap.size, 0, none⟩), .int .i64 q, .pointer (some ⟨wr.heap.size, 0, none⟩), u6, .agg #[.int .i64 k0, .string s, .slice (some ⟨bk, o, none⟩) ds.length c], .bool br, .bool br, u10, u11, u12, u13, u14, .bool false, .pointer (some ⟨Bn, 2, none⟩), .slice (some ⟨bk, o, none⟩) ds.length c, .int .i64 ds.length, .int .i64 q, .bool true, .int .i64 q, .pointer (some ⟨bk, o + q * 3, none⟩), (.agg #[.int .i64 k', .string s', .slice y' m' c']), v24, v25, v26, v27, v28, v29, .func (.func 51) #[] #[.pointer (some ⟨N, 0, none⟩), .pointer (some ⟨N + 1, 0, none⟩)], u31, u32, u33, u34, u35, u36], defers := marks Ds } ∧ Below wr.heap.size wr w' ∧ EV n₀ b N (N + 1) ds[q] k' s' y' m' c' pa' pc' (path ++ [(q : Int)]) w') ?_ ?_
        · refine wpIn_wide.2 ?_
          obtain ⟨W3, hW3⟩ : ∃ W3, W2.drew = W3 := ⟨_, rfl⟩
          have hb3 : Below wr.heap.size wr W3 := hW3 ▸ bl_dr hb2
          have HN3 := hide (show Blk W3 wr.heap.size 24 #[.int .i64 k', .string s', .slice y' m' c'] from hW3 ▸ HN2.out)
          have HE3 := hide (HEq.out.below hb3 (by omega) (by omega))
          have hSn := show W3.cell? ⟨wr.heap.size, 0, none⟩ = some (.int .i64 k') ∧ W3.cell? ⟨wr.heap.size, 1, none⟩ = some (.string s') ∧ W3.cell? ⟨wr.heap.size, 2, none⟩ = some (.slice y' m' c') ∧ W3.cell? ⟨Bp, 0, none⟩ = some (.slice pa path.length pc) from ⟨HN3.out.cell 0, HN3.out.cell 1, HN3.out.cell 2, HE3.out.bp.one.1⟩
          have HP3 := hide (show IsPath W3 (· < W3.heap.size) (.slice pa path.length pc) path from HE3.out.path.keep fun _ h => ⟨h.1, rfl⟩)
          have hlN := HN3.out.lt
          have hlB := HE3.out.bp.lt
          refine wp_region_held_drew (S := fun w' => w'.cell? ⟨wr.heap.size, 0, none⟩ = some (.int .i64 k') ∧ w'.cell? ⟨wr.heap.size, 1, none⟩ = some (.string s') ∧ w'.cell? ⟨wr.heap.size, 2, none⟩ = some (.slice y' m' c') ∧ w'.cell? ⟨Bp, 0, none⟩ = some (.slice pa path.length pc)) (by kernel_rfl) ?_ (fun hHeld => ?_)
          · rw [hW3]; exact hSn
          rw [hW3]
          clear hHeld hW3 hb2 HN2
          refine takeH (i := 0) (v := ?_) rfl (by kernel_rfl) (by kernel_rfl) (by kernel_rfl) (fun _ _ _ h => nomatch h.1) (by rfl) (by assumption) (fun w hSw => ?_) ?_; rotate_left
          · (try dsimp only at hSw); (try go_split_ands); go_simp; all_goals with_reducible rfl
          try simp only [Act.put, List.getElem_toArray, List.getElem_cons_zero, List.setIfInBounds_toArray, List.set_cons_zero, List.set_cons_succ]
          refine takeH (i := 1) (v := ?_) rfl (by kernel_rfl) (by kernel_rfl) (by kernel_rfl) (fun _ _ _ h => nomatch h.1) (by rfl) (by assumption) (fun w hSw => ?_) ?_; rotate_left
          · (try dsimp only at hSw); (try go_split_ands); go_simp; all_goals with_reducible rfl
          try simp only [Act.put, List.getElem_toArray, List.getElem_cons_zero, List.getElem_cons_succ, List.setIfInBounds_toArray, List.set_cons_zero, List.set_cons_succ]
          refine takeH (i := 3) (v := ?_) rfl (by kernel_rfl) (by kernel_rfl) (by kernel_rfl) (fun _ _ _ h => nomatch h.1) (by rfl) (by assumption) (fun w hSw => ?_) ?_; rotate_left
          · (try dsimp only at hSw); (try go_split_ands); go_simp; all_goals with_reducible rfl
          try simp only [Act.put, List.getElem_toArray, List.getElem_cons_zero, List.getElem_cons_succ, List.setIfInBounds_toArray, List.set_cons_zero, List.set_cons_succ]
          have hkeepS : ∀ (w' : World), Below W3.heap.size W3 w' → w'.cell? ⟨wr.heap.size, 0, none⟩ = some (.int .i64 k') ∧ w'.cell? ⟨wr.heap.size, 1, none⟩ = some (.string s') ∧ w'.cell? ⟨wr.heap.size, 2, none⟩ = some (.slice y' m' c') ∧ w'.cell? ⟨Bp, 0, none⟩ = some (.slice pa path.length pc) := fun _ h => ⟨(h.cell (p := ⟨wr.heap.size, 0, none⟩) hlN).trans hSn.1, (h.cell (p := ⟨wr.heap.size, 1, none⟩) hlN).trans hSn.2.1, (h.cell (p := ⟨wr.heap.size, 2, none⟩) hlN).trans hSn.2.2.1, (h.cell (p := ⟨Bp, 0, none⟩) hlB).trans hSn.2.2.2⟩
          have HKS := hide hkeepS
          have HFIN := hide (fun (w6 : World) (v : Value) (a6 : Option Addr) (c6 : Nat) (h6 : Below W3.heap.size W3 w6) (hv : v = .slice a6 (path.length + 1) c6) (ho : OwnP w6 W3.heap.size v (path ++ [(q : Int)])) => EV.kid HEq.out HKQ.out hb3 h6 (by omega) (by omega) HC.out (hv ▸ ho))
          clear hSn hkeepS
          refine wpAnyH_ready (rs := [2, 4]) (by kernel_rfl) (by simp) ?_
          refine AllReadyH.cons rfl (fun K hK => ?_) (AllReadyH.cons rfl (fun K hK => ?_) AllReadyH.nil)
          · go_simp
            refine (clone_any (w := W3) HP3.out hpl).mono ?_
            rintro e w4 ⟨va, vc, rfl, hown, hb4⟩
            have HC4 := hide hown
            clear hown
            go_simp
            refine hK.out _ _ (HKS.out _ hb4) (fun hHeld => ?_)
            clear hK K hHeld
            refine wpAnyH_ready (rs := [4]) (by kernel_rfl) (by simp) ?_
            refine AllReadyH.cons rfl (fun K hK => ?_) AllReadyH.nil
            go_simp
            refine hK.out _ _ (HKS.out _ (hb4.alloc hb4.size _)) (fun hHeld => ?_)
            clear hK K hHeld
            obtain ⟨a6, c6, w6, hr6, ho6, hb6⟩ := snoc_path (q : Int) HC4.out hpl hb4.size
            have HO6 := hide ho6
            have hb6' : Below W3.heap.size W3 w6 := hb4.trans hb6
            clear ho6
            refine wpAnyH_ready (rs := [5]) (by kernel_rfl) (by simp) ?_
            refine AllReadyH.cons rfl (fun K hK => ?_) AllReadyH.nil
            rw [if_pos (show Region.wanted _ _ = true from rfl)]
            refine wp_app (.tmp 26) (.tmp 28) rfl rfl rfl hr6 ?_
            refine hK.out _ _ (HKS.out _ hb6') (fun hHeld => ?_)
            clear hK K hHeld
            refine wpAnyH_ready (rs := [6]) (by kernel_rfl) (by simp) ?_
            refine AllReadyH.cons rfl (fun K hK => ?_) AllReadyH.nil
            have hz6 := hb6'.size
            go_simp
            refine (each_any k' s' y' m' c' a6 (path.length + 1) c6 w6).mono ?_
            rintro e w7 ⟨rfl, rfl⟩
            go_simp
            refine hK.out _ _ (HKS.out _ ((hb6'.alloc hz6 _).alloc (by simp; omega) _)) (fun hHeld => ?_)
            clear hK K hHeld
            refine wpAnyH_done (by kernel_rfl) ?_ _
            exact ⟨rfl, _, _, _, _, _, _, w6.heap.size, a6, c6, rfl, HFIN.out w6 _ a6 c6 hb6' rfl HO6.out⟩
          · go_simp
            obtain ⟨W4, hW4⟩ : ∃ W4, W3.alloc (.cells #[.int .i64 (q : Int)] 3) = W4 := ⟨_, rfl⟩
            have hb4 : Below W3.heap.size W3 W4 := hW4 ▸ (Below.refl _ W3).alloc (Nat.le_refl _) _
            have HQ4 := hide (show Blk W4 W3.heap.size 3 #[.int .i64 (q : Int)] from hW4 ▸ Blk.new W3 _ _)
            rw [hW4]
            refine hK.out _ _ (HKS.out _ hb4) (fun hHeld => ?_)
            clear hK K hHeld hW4
            refine wpAnyH_ready (rs := [2]) (by kernel_rfl) (by simp) ?_
            refine AllReadyH.cons rfl (fun K hK => ?_) AllReadyH.nil
            go_simp
            refine (clone_any (w := W4) (HP3.out.below hb4) hpl).mono ?_
            rintro e w5 ⟨va, vc, rfl, hown, hb5⟩
            have HC5 := hide (OwnP.lower hown hb4.size)
            have HQ5 := hide (HQ4.out.below hb5 HQ4.out.lt)
            have hb5' : Below W3.heap.size W3 w5 := hb4.trans (hb5.mono hb4.size)
            clear hown
            go_simp
            refine hK.out _ _ (HKS.out _ hb5') (fun hHeld => ?_)
            clear hK K hHeld
            obtain ⟨a6, c6, w6, hr6, ho6, hb6⟩ := snoc_at (q : Int) HC5.out HQ5.out hpl hb5'.size
            have HO6 := hide ho6
            have hb6' : Below W3.heap.size W3 w6 := hb5'.trans hb6
            clear ho6
            refine wpAnyH_ready (rs := [5]) (by kernel_rfl) (by simp) ?_
            refine AllReadyH.cons rfl (fun K hK => ?_) AllReadyH.nil
            rw [if_pos (show Region.wanted _ _ = true from rfl)]
            refine wp_app (.tmp 26) (.tmp 28) rfl rfl rfl hr6 ?_
            refine hK.out _ _ (HKS.out _ hb6') (fun hHeld => ?_)
            clear hK K hHeld
            refine wpAnyH_ready (rs := [6]) (by kernel_rfl) (by simp) ?_
            refine AllReadyH.cons rfl (fun K hK => ?_) AllReadyH.nil
            have hz6 := hb6'.size
            go_simp
            refine (each_any k' s' y' m' c' a6 (path.length + 1) c6 w6).mono ?_
            rintro e w7 ⟨rfl, rfl⟩
            go_simp
            refine hK.out _ _ (HKS.out _ ((hb6'.alloc hz6 _).alloc (by simp; omega) _)) (fun hHeld => ?_)
            clear hK K hHeld
            refine wpAnyH_done (by kernel_rfl) ?_ _
            exact ⟨rfl, _, _, _, _, _, _, w6.heap.size, a6, c6, rfl, HFIN.out w6 _ a6 c6 hb6' rfl HO6.out⟩
        · rintro e a' W4 ⟨rfl, v24, v25, v26, v27, v28, v29, N, pa', pc', rfl, hb4, hEk⟩
          have HEk := hide hEk
          have hz4 := hb4.size
          have hkr4 : Kq n₀ b wr W4 := Kq.of_below hb4 (by omega) (by omega)
          have hk4 : Kq n₀ b W W4 := HKQ.out.trans hkr4
          have HE4 := hide (HEq.out.below hb4 (by omega) (by omega))
          have HX4 := hide (HBX.out.below hb4 HBX.out.lt)
          have hJ4 : J (pre1 ++ eachLs path 0 (ds.take q)) W4 := OwnFrom.below_ hJ hb4 HJ.out
          have hD4 : Open_ W.heap.size Ds W4 := HDs.out.below_ hb4
          have hNo4 : ¬ Ow b W4 W.heap.size := no_own hb4 (by omega) hNo
          have hDlt : ∀ D ∈ Ds, D < W4.heap.size := fun D h => (hD4 D h).2.1
          have hlW4 : W.heap.size < W4.heap.size := HX4.out.lt
          clear hEk hb2 HN2 HJ HDs HBX
          gi_wp2
          have hIH : ∀ Wx, Below W4.heap.size W4 Wx → SeqPath Tryz.prog 51 N (N + 1) n₀ b (eachL (path ++ [(q : Int)]) ds[q]) Wx := fun Wx hx =>
            HI.out ds[q] (List.getElem_mem hlt) n₀ b N (N + 1) k' s' y' m' c' pa' pc' (path ++ [(q : Int)]) Wx (HEk.out.below hx (by omega) (by omega)) hn (by have := hx.size; omega) (by have := HCM.out ds[q] (List.getElem_mem hlt); simp at this ⊢; omega)
          have HIH := hide hIH
          clear hIH
          refine range_path (gf := 51) (Bn := N) (Bp := N + 1) (n₀ := n₀) (b := b) (L := eachL (path ++ [(q : Int)]) ds[q]) (pre0 := pre1 ++ eachLs path 0 (ds.take q)) rfl (enters_of Tryz.func51 (by kernel_rfl) rfl) (by omega) (by omega) HIH.out
            (fun pre Wx => J pre Wx ∧ Kq n₀ b W4 Wx ∧ Open_ W.heap.size Ds Wx ∧ Blk Wx W.heap.size 77 #[.func (.yield l) #[] #[]])
            (fun pre Wx => Jx pre Wx ∧ Open_ W.heap.size Ds Wx)
            (OwnFrom.and (OwnFrom.mono_ hJ (by omega)) (OwnFrom.and (Kq.own_ (by omega) (by omega) (Nat.le_refl _)) (OwnFrom.and (Open_.own hDlt) (blk_own (by omega)))))
            (OwnFrom.and (OwnFrom.mono_ hJx (by omega)) (Open_.own hDlt))
            ⟨hJ4, Kq.refl _ _ _, hD4, HX4.out⟩
            (fun v => { tmps := #[.func (.yield l) #[] #[], .pointer (some ⟨Bn, 0, none⟩), .pointer (some ⟨Bp, 0, none⟩), .pointer (some ⟨W.heap.size, 0, none⟩), .int .i64 q, .pointer (some ⟨wr.heap.size, 0, none⟩), v, .agg #[.int .i64 k0, .string s, .slice (some ⟨bk, o, none⟩) ds.length c], .bool br, .bool br, u10, u11, u12, u13, u14, .bool false, .pointer (some ⟨Bn, 2, none⟩), .slice (some ⟨bk, o, none⟩) ds.length c, .int .i64 ds.length, .int .i64 q, .bool true, .int .i64 q, .pointer (some ⟨bk, o + q * 3, none⟩), (.agg #[.int .i64 k', .string s', .slice y' m' c']), v24, v25, v26, v27, v28, v29, .func (.func 51) #[] #[.pointer (some ⟨N, 0, none⟩), .pointer (some ⟨N + 1, 0, none⟩)], v, u32, u33, u34, u35, u36], defers := [] })
            ?assign ?body ?done ?stop
          case assign =>
            intro l2 a2 m2 c2 Wx K hK
            gi_wp2
            exact hK
          case body =>
            rintro l2 pre x a2 m2 c2 Wx hszx ⟨hJ2, hk2, hD2, hx2⟩ hpx hpre
            obtain ⟨fn, tmps, assign, body, hy, hR⟩ := HY.out pre x (.slice a2 m2 c2) Wx hJ2 (hpx.keep fun k hk => ⟨⟨by have := hk.1; omega, hk.2⟩, rfl⟩) (by omega) (hpre.trans (eachLs_prefix path hlt pre1))
            have x0 := hx2.one.1
            have hNox : ¬ Ow b Wx W.heap.size := hk2.not_own hlW4 hNo4
            have HXX := hide hx2
            clear hx2 hpx
            gi_wp2
            refine ⟨rfl, (show RoundIn (Fence.wide.inRound l2) 0 Tryz.prog l fn tmps assign body Wx _ from hR).mono ?_⟩
            rintro e W' (⟨rfl, hJ', hk'⟩ | ⟨rfl, hJx', hkf⟩)
            · gi_wp2
              exact ⟨hk', hJ', hk2.trans hk', hD2.recs (hk'.recs.from _), hk'.blk HXX.out hNox⟩
            · gi_wp2
              exact ⟨KeepsFrom.mono_ hkf (by omega), hJx', hD2.recs hkf⟩
          case done =>
            rintro D Wx hD hDx ⟨hJ2, hk2, hD2, hx2⟩ hdef hkx
            have HD2 := hide hD2
            have HDEF := hide hdef
            have HXX := hide hx2
            have hEx := HE4.out.kq hk2
            have HEX := hide hEx
            have hNox : ¬ Ow b Wx W.heap.size := hk2.not_own hlW4 hNo4
            clear hD2 hdef hx2 hEx
            gi_wp2
            refine ⟨⟨q + 1, D :: Ds, _, _, _, _, _, _, _, _, _, _, _, _, _, _, _, _, _, _, _, _, rfl, by omega, ?_, hk4.trans hk2, ?_, ?_, HXX.out, HEX.out, hNox⟩, ?_⟩
            · rw [eachLs_take path hlt, ← List.append_assoc]
              exact hJ2
            · exact List.nodup_cons.2 ⟨fun h => by have := hDlt D h; omega, HND.out⟩
            · intro E hE
              rcases List.mem_cons.1 hE with rfl | hE
              · exact ⟨by omega, hDx, HDEF.out⟩
              · exact HD2.out E hE
            · simp [intOf]
              omega
          case stop =>
            rintro D pre Wx hD hDx ⟨hJ2, hD2⟩ hdef
            have HD2 := hide hD2
            have HDEF := hide hdef
            clear hD2 hdef
            gi_wp2
            refine leave_marks (P := Tryz.prog) (fn := Tryz.f51) (B := W.heap.size) (R := fun W' => (J (pre0 ++ (pb ++ eachLs path 0 ds)) W' ∧ Kq n₀ b W W') ∨ ∃ pre, Jx pre W') rfl
              (fun X D h hB hD => h.elim (fun h => Or.inl ⟨hJ.putObj _ h.1 hB hD rfl, h.2.put hn0 hb hB _⟩) (fun ⟨pre, h⟩ => Or.inr ⟨pre, hJx.putObj _ h hB hD rfl⟩)) _ (D :: Ds) Wx (List.nodup_cons.2 ⟨fun h => by have := hDlt D h; omega, HND.out⟩) (fun E hE => ?_) (Or.inr ⟨pre, hJ2⟩)
            rcases List.mem_cons.1 hE with rfl | hE
            · exact ⟨by omega, HDEF.out⟩
            · exact ⟨(HD2.out E hE).1, (HD2.out E hE).2.2⟩
      · gi_wp2
        have hJf := HJ.out
        rw [List.take_of_length_le (by omega)] at hJf
        exact leave_marks (P := Tryz.prog) (fn := Tryz.f51) (B := W.heap.size) (R := fun W' => (J (pre0 ++ (pb ++ eachLs path 0 ds)) W' ∧ Kq n₀ b W W') ∨ ∃ pre, Jx pre W') rfl
          (fun X D h hB hD => h.elim (fun h => Or.inl ⟨hJ.putObj _ h.1 hB hD rfl, h.2.put hn0 hb hB _⟩) (fun ⟨pre, h⟩ => Or.inr ⟨pre, hJx.putObj _ h hB hD rfl⟩)) _ Ds wr HND.out (fun D h => ⟨(HDs.out D h).1, (HDs.out D h).2.2⟩) (Or.inl ⟨by rw [HPR.out]; exact hJf, HKQ.out⟩)
end Go.Proofs.YtacgmmpdichlmaaGreat
