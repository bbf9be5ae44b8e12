/- The last step of a row: a call that leaves all memory that was there as it was meets the form's post. -/
import Derived.Below
import Derived.ChangeSame
import Derived.ProofKit
import Derived.OpenShut
namespace Go.Proofs.YtdffinnnjcgfcaaGreatK
open Go Go.RowKit Go.WideShapes Go.ChangeShapes
section
variable {H : Type} {enc : TypeId × Value → H} {P : Program}
theorem post_kept {f : Func} {s : ChangeSpec} {apart fresh handsOn again : Bool} {W W' : World} {args : Array Value} {v : Value} {ds gs : List (DataW H)} {met pa pv : List MemPlace}
    (hW : DataW.Whole enc P f.params.toList s.vars apart W args.toList ds gs met) (hb : Below W.heap.size W W')
    (hres : ∀ (b : Nat) (sp : Nat → Bool) (hd : Bool), DataW.TrodAll enc P W' b sp hd f.resultTypes.toList (v.resultList f.resultTypes.size) (s.fn H (ds ++ gs)).results [])
    (hargs : ∀ sp : Nat → Bool, (∀ p ∈ met, sp p.block = true) → DataW.TrodAll enc P W' 0 sp true f.params.toList args.toList (s.fn H (ds ++ gs)).args pa)
    (hvars : ∀ sp : Nat → Bool, (∀ p ∈ met, sp p.block = true) → DataW.TrodVars enc P W' sp s.vars (s.fn H (ds ++ gs)).vars pv)
    (hps : met = pa ++ pv)
    (hok : ∀ (j : Nat) (t : TypeId) (r : Value), f.resultTypes[j]? = some t → (v.resultList f.resultTypes.size)[j]? = some r → Value.okWide P W' .any 0 t r) :
    s.post enc P f apart fresh handsOn again W args v W' := by
  have small : ∀ p ∈ met, p.block < W.heap.size := fun p hp => hW.lt p hp
  have below : ∀ p ∈ met, (fun b => decide (b < W.heap.size)) p.block = true := fun p hp => decide_eq_true (small p hp)
  have split : ∀ p, p ∈ met → p ∈ ([] ++ pa) ++ pv := fun p hp => by rw [hps] at hp; simpa using hp
  have join : ∀ p, p ∈ ([] ++ pa) ++ pv → p ∈ met := fun p hp => by rw [hps]; simpa using hp
  refine ⟨ds, gs, met, [], pa, pv, hW, hres _ _ _, hargs _ below, hvars _ below, ?_, fun _ => ?_⟩
  · refine World.keptBut_mono (fun p hp => ⟨hp, ?_⟩) (hb.frame (· ∈ met))
    have := split p hp
    simpa using this
  · obtain ⟨_, _, _, _, _, hz, hn⟩ := hW
    refine ⟨hok, _, _, ([] ++ pa) ++ pv, ⟨[] ++ pa, pv, trodAll_append (hargs _ (fun _ _ => rfl)) (hres _ _ _), hvars _ (fun _ _ => rfl), rfl, ?_, ?_⟩, fun p hp _ => join p hp⟩
    · intro b off hp
      have hin := join _ hp
      rw [hb.frozen (small _ hin)]
      exact hz b off hin
    · intro ha
      have := hn ha
      rw [hps] at this
      simpa using this
end
end Go.Proofs.YtdffinnnjcgfcaaGreatK
