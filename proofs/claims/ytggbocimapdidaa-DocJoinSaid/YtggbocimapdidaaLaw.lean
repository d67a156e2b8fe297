/-
  The last step of each row: a call that gives true and turns nothing old satisfies a row whose law says 'true; the input reads as it did'; and how bytes that came in read.
  No condition.
-/
import Derived.Test.YtggbocimapdidaaBase
import Derived.Carry
import Derived.Deep.Slices
import Derived.Deep.Fields
import Derived.ChangeSame
namespace Go.Proofs.Ytggbocimapdidaa
open Go.ChangeShapes Go.WideShapes Go.RowKit Go.Deep

/-- The slice of n places from a on reads as the numbers c, each a byte, in blocks of F. -/
def IsBytes (w : World) (F : Nat → Prop) (a : Option Addr) (n : Nat) (c : List Int) : Prop :=
  n = c.length ∧ n ≤ maxLen ∧ (∀ x ∈ c, 0 ≤ x ∧ x ≤ 255) ∧
    (c ≠ [] → ∃ b o, a = some ⟨b, o, none⟩ ∧ F b ∧ ∀ (k : Nat) (x : Int), c[k]? = some x → w.cell? ⟨b, o + k, none⟩ = some (.int .u8 x))
theorem IsBytes.get {w : World} {F : Nat → Prop} {a : Option Addr} {n : Nat} {c : List Int} (h : IsBytes w F a n c) {k : Nat} (hk : k < c.length) :
    ∃ b o, a = some ⟨b, o, none⟩ ∧ F b ∧ w.cell? ⟨b, o + k, none⟩ = some (.int .u8 c[k]) ∧ 0 ≤ c[k] ∧ c[k] ≤ 255 := by
  obtain ⟨_, _, hf, hc⟩ := h
  have hne : c ≠ [] := by intro e; subst e; simp at hk
  obtain ⟨b', o', ha, hF, hcell⟩ := hc hne
  exact ⟨b', o', ha, hF, hcell k _ (by simp [hk]), hf _ (by simp)⟩


theorem laid : laidOutB Try.prog = true := by kernel_rfl
theorem own_ : ownKnob Try.prog.godebug = none := by kernel_rfl
theorem cells5 : Try.prog.cellsOf 5 = 1 := by kernel_rfl

section
variable {H : Type} {enc : TypeId × Value → H}

theorem carry_all {W W' : World} (hb : Below W.heap.size W W') {sp : Nat → Bool} : ∀ {ts : List TypeId} {vs : List Value} {ds : List (DataW H)} {ps : List MemPlace},
    (∀ t ∈ ts, Try.prog.readableRec t = true ∧ t < Try.prog.types.size) → DataW.TrodAll enc Try.prog W 0 (fun _ => true) true ts vs ds ps → (∀ x ∈ ps, x.block < W.heap.size) → (∀ x ∈ ps, sp x.block = true) →
    DataW.TrodAll enc Try.prog W' 0 sp true ts vs ds ps
  | [], _, _, _, _, h, _, _ => by
    obtain ⟨rfl, rfl, rfl⟩ := trodAll_nil h
    exact trodAll_mk0
  | t :: ts, _, _, _, hts, h, hlt, hsp => by
    obtain ⟨v0, vs0, d0, ds0, p0, q0, rfl, rfl, rfl, h0, r0⟩ := trodAll_cons h
    refine trodAll_cons_mk ?_ (carry_all hb (fun t ht => hts t (List.mem_cons_of_mem _ ht)) r0 (fun x hx => hlt x (List.mem_append_right _ hx)) (fun x hx => hsp x (List.mem_append_right _ hx)))
    have := hts t (List.mem_cons_self ..)
    exact WideElems.Trod_stays laid this.1 this.2 h0 (fun x hx => hb.same (hlt x (List.mem_append_left _ hx))) (fun x hx => hsp x (List.mem_append_left _ hx))

theorem true_post {f : Func} {s : ChangeSpec} {W W' : World} {args : Array Value} {ds gs : List (DataW H)} {before : List MemPlace}
    (hW : DataW.Whole enc Try.prog f.params.toList s.vars false W args.toList ds gs before)
    (hvars : s.vars = []) (hfn : s.fn H (ds ++ gs) = { results := [.lit (.bool true)], args := ds }) (hr : f.resultTypes = #[4])
    (hts : ∀ t ∈ f.params.toList, Try.prog.readableRec t = true ∧ t < Try.prog.types.size) (hb : Below W.heap.size W W') :
    s.post enc Try.prog f false true false false W args (.bool true) W' := by
  have hW' := hW
  obtain ⟨p, q, hA0, hV, rfl, hfz, hnd⟩ := hW
  have hV0 := hV
  rw [hvars] at hV
  obtain ⟨rfl, rfl⟩ := trodVars_none hV
  have hlt : ∀ x ∈ p, x.block < W.heap.size := fun x hx => by simpa using hW'.lt x (by simpa using hx)
  refine post_of_below (pa := p) (pv := []) hW' ?_ ?_ ?_ (by simp) hb ?_
  · intro b sp hd
    rw [hfn, hr]
    exact trodAll_mk1 (shut_bool Try.underlying4 true)
  · intro sp hs
    rw [hfn]
    exact carry_all hb hts hA0 hlt (fun x hx => hs x (by simpa using hx))
  · intro sp hs
    rw [hfn, hvars]
    rfl
  · exact ok_one hr rfl (okWide_bool_mk Try.underlying4 true)

/-- The bytes of a slice that came in. -/
theorem open_bytes {W : World} {base : Nat} {v : Value} {d : DataW H} {ps : List MemPlace} (hval : Value.okWide Try.prog W .any base 22 v) (h : DataW.Trod enc Try.prog W 0 (fun _ => true) true 22 v d ps) :
    ∃ a m cap c, v = .slice a m cap ∧ IsBytes W (· < W.heap.size) a m c := by
  obtain ⟨a, m, cap, rfl⟩ := okWide_slice Try.underlying22 hval
  obtain ⟨fuel, hf⟩ := h
  rcases open_ints Try.underlying22 Try.underlying5 cells5 hf with ⟨hcs, hx⟩ | ⟨a', m', cap', zs, hcs, _, hl, hm, hz, hx, hcell, hwz⟩
  · simp [Value.cells] at hcs
    obtain ⟨rfl, rfl, rfl⟩ := hcs
    exact ⟨none, 0, 0, [], rfl, rfl, Nat.zero_le _, by simp, by simp⟩
  · simp [Value.cells] at hcs
    obtain ⟨rfl, rfl, rfl⟩ := hcs
    simp only [if_true] at hz
    refine ⟨some a', m, cap, zs.take m, rfl, by simp; omega, by omega, ?_, ?_⟩
    · intro x hx
      have := hwz x (List.mem_of_mem_take hx)
      simpa [Lit.wf, IntKind.min, IntKind.max, IntKind.signed, IntKind.bits] using this
    · intro hne
      have hm0 : 0 < m := by
        rcases Nat.eq_zero_or_pos m with h0 | h0
        · subst h0; simp at hne
        · exact h0
      have hc0 := hcell 0 (by omega)
      obtain ⟨ab, ao, spot⟩ := a'
      have hspot : spot = none := by simpa [Addr.add] using World.cell?_spot hc0
      subst hspot
      refine ⟨ab, ao, rfl, ?_, ?_⟩
      · rcases Nat.lt_or_ge ab W.heap.size with h1 | h1
        · exact h1
        · rw [Addr.add_lit] at hc0
          simp [World.cell?, Array.getElem?_eq_none h1] at hc0
      · intro k x hk
        obtain ⟨hk1, hk2⟩ := List.getElem?_eq_some_iff.1 hk
        have hkm : k < m := by simp at hk1; omega
        have := hcell k (by omega)
        rw [Addr.add_lit] at this
        rw [this]
        congr 2
        rw [List.getElem_take] at hk2
        rw [← hk2]
        simp [List.getD, List.getElem?_eq_getElem (show k < zs.length by omega)]
end
end Go.Proofs.Ytggbocimapdidaa
