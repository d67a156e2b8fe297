/-
  The row of DocJoin: the given statement, from the walk.
  No condition.
-/
import Derived.Test.YtggbocimapdidaaLaw
import Derived.Test.YtggbocimapdidaaJoinW
import Derived.SizedLaws
namespace Go.Proofs.Ytggbocimapdidaa
open Go.ChangeShapes Go.WideShapes Go.ChangeAt Go.RowKit Go.Deep
open Go.ChangeMaps (open_string)

theorem docJoin_kinds : ∀ t ∈ Try.f5.params.toList, Try.prog.readableRec t = true ∧ t < Try.prog.types.size := by
  have h : (Try.f5.params.toList.all fun t => Try.prog.readableRec t && decide (t < Try.prog.types.size)) = true := by kernel_rfl
  intro t ht
  have := List.all_eq_true.1 h t ht
  simpa using this

set_option maxRecDepth 100000 in
theorem docJoin_lifted (os : Os) (started : os.Started) (H : Type) (enc : TypeId × Value → H) :
    ReturnsInHanded {} Try.checked os 5 .any (Rows.docJoinSpec.pre6 enc Try.prog Try.f5 Rows.docJoinRow.domain false) (Rows.docJoinSpec.post enc Try.prog Try.f5 false true false false) := by
  refine returnsInHanded_of_change_sized (C := Try.checked) own_ started (by kernel_rfl) Try.func5
    (ChangeSpec.witness6 (enc := enc) (C := Try.checked) false ⟨#[], #[.slice none 0 0, .slice none 0 0, .int .i8 0], []⟩ 8 (by kernel_rfl) (by kernel_rfl) (by kernel_rfl) (by kernel_rfl)) ?_
  intro W base args ds gs before hval0 hW hcnd hsz _
  have hval : ∀ (j : Nat) t v, Try.f5.params[j]? = some t → args[j]? = some v → Value.okWide Try.prog W .any base t v := hval0
  have hW' := hW
  obtain ⟨p, q, hA0, hV, rfl, hfz, hnd⟩ := hW
  have hA : DataW.TrodAll enc Try.prog W 0 (fun _ => true) true Try.f5.params.toList args.toList ds p := hA0
  rw [Try.params5] at hA hval hsz
  obtain ⟨rfl, rfl⟩ := trodVars_none hV
  obtain ⟨v0, vs0, d0, ds0, p0, q0, hargs, rfl, rfl, h0, r0⟩ := trodAll_cons hA
  obtain ⟨v1, vs1, d1, ds1, p1, q1, rfl, rfl, rfl, h1, r1⟩ := trodAll_cons r0
  obtain ⟨v2, vs2, d2, ds2, p2, q2, rfl, rfl, rfl, h2, r2⟩ := trodAll_cons r1
  obtain ⟨rfl, rfl, rfl⟩ := trodAll_nil r2
  obtain rfl : args = #[v0, v1, v2] := by cases args; simp_all
  obtain ⟨a, m, cap, c, rfl, hI⟩ := open_bytes (hval 0 22 v0 rfl rfl) h0
  obtain ⟨a2, m2, cap2, c2, rfl, hI2⟩ := open_bytes (hval 1 22 v1 rfl rfl) h1
  obtain ⟨g, rfl, rfl, rfl, wg⟩ := open_int Try.underlying37 (hval 2 37 v2 rfl rfl) h2
  have hg : -128 ≤ g ∧ g ≤ 127 := by simpa [Lit.wf, IntKind.min, IntKind.max, IntKind.signed, IntKind.bits] using wg
  refine (join_any a m cap c a2 m2 cap2 c2 g hg W hI hI2).mono fun e W' ⟨he, hb⟩ => ?_
  subst he
  exact ⟨_, rfl, true_post hW' rfl rfl (by kernel_rfl) docJoin_kinds hb⟩

theorem docJoin_over : Rows.docJoinRow.holds Try.pinned (OpenSpec.ofChange Rows.docJoinSpec) :=
  OpenClaim.holds_of_wide 5 Try.f5 rfl rfl rfl rfl rfl rfl rfl ⟨rfl, rfl, rfl, rfl, rfl⟩ rfl rfl rfl rfl rfl (by kernel_rfl) Try.func5 (by kernel_rfl)
    (of_decide_eq_true (by kernel_rfl)) (by unfold Func.isWrapper; first | (rw [if_pos (by decide +kernel)]; kernel_rfl) | (rw [if_neg (by decide +kernel)]; exact ⟨rfl, rfl⟩))
    (fun os started H enc _ => docJoin_lifted os started H enc)

theorem docJoin_proved : Rows.DocJoinSaid :=
  docJoin_over
end Go.Proofs.Ytggbocimapdidaa
