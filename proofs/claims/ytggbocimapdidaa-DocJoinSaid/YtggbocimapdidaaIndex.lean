/-
  slices.IndexFunc and ContainsFunc at documents.
  Their conditions: the slice reads as documents; the function handed over answers what p says of each.
-/
import Derived.Test.YtggbocimapdidaaRefRow
import Derived.Test.YtggbocimapdidaaRefRight
namespace Go.Proofs.Ytggbocimapdidaa
open Go.RowKit

/-- The first place from q on at which p holds. -/
def idxL (p : Dc → Bool) : Nat → List Dc → Int
  | _, [] => -1
  | q, d :: ds => if p d then q else idxL p (q + 1) ds
def Tells (g : Nat) (p : Dc → Bool) (ds : List Dc) : Prop := ∀ d ∈ ds, ∀ (v : Value) (w : World), IsDc w (· < w.heap.size) d v → Calls Try.prog g #[v] w (Says (p d) w)
def IdxPost (i : Int) (w : World) (e : Ending) (w' : World) : Prop := e = .returned (.int .i64 i) ∧ Below w.heap.size w w'

set_option maxHeartbeats 2000000 in
theorem index_any (g : Nat) (hg : g = 33 ∨ g = 36) (p : Dc → Bool) (F : Nat → Prop) (ds : List Dc) (v : Value) (w : World) (hF : ∀ b, F b → b < w.heap.size) (h : IsSl w F ds v) (hp : Tells g p ds) :
    Calls Try.prog 39 #[v, .func (.func g) #[] #[]] w (IdxPost (idxL p 0 ds) w) := by
  obtain ⟨a, cap, rfl, hl, hk⟩ := h
  simp only [maxLen] at hl
  have HP := hide hp
  clear hp
  rcases hg with rfl | rfl
  all_goals
    go_enter Try.func39, Try.ntmps39
    go_wp2_with fail
    go_loopw [8] (fun i wr => ∃ q : Nat, q ≤ ds.length ∧ i = .int .i64 q ∧ Below w.heap.size w wr ∧ idxL p 0 ds = idxL p q (ds.drop q)) (fun i _ => ds.length - (intOf i).toNat)
    case atStart => exact ⟨0, Nat.zero_le _, rfl, Below.refl _ _, rfl⟩
    case round =>
      obtain ⟨q, hq, rfl, hb, hr⟩ := hrel
      have HR := hide hr
      clear hr
      by_cases hlt : q < ds.length
      · obtain ⟨b, o, rfl, hFb, hkk⟩ := hk (by omega)
        obtain ⟨c0, c1, c2, c3, g0, g1, g2, g3, hc⟩ := hkk.get (k := q) (d := ds[q]) (by rw [Dcs.toL_ofL]; exact List.getElem?_eq_getElem hlt)
        have hw : ∀ i, wr.cell? ⟨b, i, none⟩ = w.cell? ⟨b, i, none⟩ := fun i => hb.cell (p := ⟨b, i, none⟩) (hF b hFb)
        rw [← hw] at g0 g1 g2 g3
        have hc' : IsDc wr (· < wr.heap.size) ds[q] (.agg #[c0, c1, c2, c3]) := IsDc.keep (fun x hx => ⟨by have := hb.size; have := hF x hx; show x < _; omega, hb.block x (hF x hx)⟩) _ _ hc
        have HC := hide (HP.out ds[q] (List.getElem_mem hlt) _ wr hc')
        have hdr : idxL p q (ds.drop q) = if p ds[q] then (q : Int) else idxL p (q + 1) (ds.drop (q + 1)) := by rw [List.drop_eq_getElem_cons hlt, idxL]
        have HD := hide hdr
        clear hdr hc hc' hw
        go_wp2_with fail
        refine (unhide HC).mono ?_
        rintro e w1 ⟨rfl, hb1⟩
        cases hx : p ds[q] with
        | true =>
          go_wp2_with fail
          go_ret
          exact ⟨by rw [HR.out, HD.out, hx]; rfl, hb.trans (hb1.mono hb.size)⟩
        | false =>
          go_wp2_with fail
          go_roundw
          case rel => exact ⟨q + 1, by omega, by go_num, hb.trans (hb1.mono hb.size), by rw [HR.out, HD.out, hx]; rfl⟩
          case measure => simp [intOf]; omega
      · go_wp2_with fail
        go_ret
        refine ⟨?_, hb⟩
        rw [HR.out, List.drop_eq_nil_of_le (by omega)]
        rfl

theorem idxL_nonneg (p : Dc → Bool) : ∀ (ds : List Dc) (q : Nat), (0 ≤ idxL p q ds ↔ ds.any p = true)
  | [], q => by simp [idxL]
  | d :: ds, q => by
    rw [idxL, List.any_cons]
    cases p d with
    | true => simp
    | false => simpa using idxL_nonneg p ds (q + 1)

set_option maxHeartbeats 1000000 in
theorem contains_any (p : Dc → Bool) (F : Nat → Prop) (ds : List Dc) (v : Value) (w : World) (hF : ∀ b, F b → b < w.heap.size) (h : IsSl w F ds v) (hp : Tells 36 p ds) :
    Calls Try.prog 35 #[v, .func (.func 36) #[] #[]] w (Says (ds.any p) w) := by
  have HC := hide (index_any 36 (Or.inr rfl) p F ds v w hF h hp)
  have HI := hide (idxL_nonneg p ds 0)
  clear h hp
  go_enter Try.func35, Try.ntmps35
  go_wp2_with fail
  refine (unhide HC).mono ?_
  rintro e w1 ⟨rfl, hb⟩
  by_cases h0 : 0 ≤ idxL p 0 ds
  · go_wp2_with fail
    go_ret
    exact ⟨by rw [HI.out.1 h0]; rfl, hb⟩
  · have hn : ds.any p = decide (0 ≤ idxL p 0 ds) := by
      rw [decide_eq_false h0]
      cases hx : ds.any p with
      | true => exact absurd (HI.out.2 hx) h0
      | false => rfl
    have HN := hide hn
    clear hn
    go_wp2_with fail
    go_ret
    exact ⟨by rw [HN.out]; rfl, hb⟩
end Go.Proofs.Ytggbocimapdidaa
