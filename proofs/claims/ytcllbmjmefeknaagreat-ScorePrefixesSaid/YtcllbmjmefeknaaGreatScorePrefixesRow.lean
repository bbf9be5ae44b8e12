/-
  signalman/signalmanlaw24.ScorePrefixes: for every input two lists are made one list behind the other, and that is told by Whole of a third just when it is so; a list is the beginning of another one just when Prefix tells so; the law returns true, and leaves all memory as it was. No condition.
-/
import Derived.Test.YtcllbmjmefeknaaGreatRows
import Derived.WalkKit
import Derived.Test.YtcllbmjmefeknaaGreatSc9
import Derived.Test.YtcllbmjmefeknaaGreatRoa
import Derived.ProofKit
import Derived.OpenShut
namespace Go.Proofs.YtcllbmjmefeknaaGreat.scorePrefixes
open Go.ChangeShapes Go.WideShapes Go.ChangeAt Go.RowKit Go.Proofs.YtcllbmjmefeknaaGreatK
set_option linter.unusedVariables false

theorem own : ownKnob Tryz.prog.godebug = none := by kernel_rfl

set_option maxRecDepth 100000 in
theorem lifted (os : Os) (started : os.Started) (H : Type) (enc : TypeId × Value → H) :
    ReturnsInHanded {} Tryz.checked os 7 .any (Rows.scorePrefixesSpec.pre6 enc Tryz.prog Tryz.f7 Rows.scorePrefixesRow.domain false) (Rows.scorePrefixesSpec.post enc Tryz.prog Tryz.f7 false true false false) := by
  refine returnsInHanded_of_change (C := Tryz.checked) own started (by kernel_rfl) Tryz.func7
    (ChangeSpec.witness6 (enc := enc) (C := Tryz.checked) false ⟨#[], #[.slice none 0 0, .slice none 0 0, .slice none 0 0], []⟩ 8 (by kernel_rfl) (by kernel_rfl) (by kernel_rfl) (by kernel_rfl)) ?_
  intro W base args ds gs before hval0 hW hcnd _
  have hval : ∀ (j : Nat) t v, Tryz.f7.params[j]? = some t → args[j]? = some v → Value.okWide Tryz.prog W .any base t v := hval0
  have hW' := hW
  obtain ⟨p, q, hA0, hV, rfl, hfz, hnd⟩ := hW
  have hA : DataW.TrodAll enc Tryz.prog W 0 (fun _ => true) true Tryz.f7.params.toList args.toList ds p := hA0
  rw [Tryz.params7] at hA hval
  obtain ⟨v0, vs0, d0, ds0, p0, q0, hargs, rfl, rfl, h0, r0⟩ := trodAll_cons hA
  obtain ⟨v1, vs1, d1, ds1, p1, q1, rfl, rfl, rfl, h1, r1⟩ := trodAll_cons r0
  obtain ⟨v2, vs2, d2, ds2, p2, q2, rfl, rfl, rfl, h2, r2⟩ := trodAll_cons r1
  obtain ⟨rfl, rfl, rfl⟩ := trodAll_nil r2
  obtain rfl : args = #[v0, v1, v2] := by cases args; simp_all
  obtain ⟨rfl, rfl⟩ := trodVars_none hV
  obtain ⟨x0, s0, l0⟩ := bytI_of (hval 0 25 v0 rfl rfl) h0
  obtain ⟨x1, s1, l1⟩ := bytI_of (hval 1 25 v1 rfl rfl) h1
  obtain ⟨x2, s2, l2⟩ := bytI_of (hval 2 25 v2 rfl rfl) h2
  clear hA0 hval0
  refine (ScorePrefixes_w v0 x0 v1 x1 v2 x2 W s0 l0 s1 l1 s2 l2).mono fun e W' ⟨he, hg⟩ => ?_
  subst he
  exact ⟨_, rfl, post_any (by kernel_rfl) (by kernel_rfl) rfl hW' hg rfl rfl (fun _ _ _ => trodAll_cons_mk (shut_bool Tryz.underlying4 _) trodAll_mk0) (ok_one (by kernel_rfl) rfl (okWide_bool_mk Tryz.underlying4 _))⟩

set_option maxHeartbeats 4000000 in
set_option maxRecDepth 100000 in
theorem closed : joinedFacts Tryz.prog 7 Tryz.f7 Rows.scorePrefixesSpec Rows.scorePrefixesRow = true := by
  unfold joinedFacts
  repeat' (with_reducible refine Bool.and_eq_true_iff.mpr ⟨?_, ?_⟩)
  all_goals first | (with_reducible exact may_enter) | (rw [lifts_final]; as_aux_lemma => kernel_rfl) | (rw [the_make]; as_aux_lemma => kernel_rfl) | (as_aux_lemma => kernel_rfl)

theorem over : Rows.scorePrefixesRow.holds Tryz.pinned (OpenSpec.ofChange Rows.scorePrefixesSpec) :=
  OpenClaim.holds_of_wide 7 Tryz.f7 rfl rfl rfl rfl rfl rfl rfl ⟨rfl, rfl, rfl, rfl, rfl⟩ rfl rfl rfl rfl rfl (by kernel_rfl) Tryz.func7 closed
    (of_decide_eq_true (by kernel_rfl)) (by unfold Func.isWrapper; first | (rw [if_pos (by decide +kernel)]; kernel_rfl) | (rw [if_neg (by decide +kernel)]; exact ⟨rfl, rfl⟩))
    (fun os started H enc _ => lifted os started H enc)

theorem proved : Rows.ScorePrefixesSaid :=
  over
#print axioms proved
end Go.Proofs.YtcllbmjmefeknaaGreat.scorePrefixes
