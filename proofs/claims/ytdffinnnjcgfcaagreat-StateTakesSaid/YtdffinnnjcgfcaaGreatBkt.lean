/- The walks of packages bucket and outage: values that are handed in and handed back. -/
import Derived.Test.YtdffinnnjcgfcaaGreatProg
import Derived.Test.YtdffinnnjcgfcaaGreatCore
import Derived.Test.YtdffinnnjcgfcaaGreatM
import Derived.RegionTactic
namespace Go.Proofs.YtdffinnnjcgfcaaGreatK
open Go Go.RowKit
set_option linter.unusedVariables false
set_option maxHeartbeats 1000000
set_option maxRecDepth 100000
abbrev Oa.v (o : Oa) : Value := .agg #[.bool o.own, .bool o.their, .bool o.wait]
abbrev Le.v (l : Le) : Value := .agg #[.int .i64 l.n, .int .i64 l.seen]
abbrev Pf.v (p : Pf) : Value := .agg #[.bool p.hurry, .int .i64 p.n, .int .i64 p.tries]
theorem Is_c (o : Oa) (w : World) : Calls Tryz.prog 112 #[o.v] w fun e w' => e = .returned (.bool o.is) ∧ Below w.heap.size w w' := by
  have HB := bl_refl w
  obtain ⟨a, b, c⟩ := o
  cases a <;> cases b <;> cases c
  all_goals
    go_enter Tryz.func112, Tryz.ntmps112
    go_wp2
    go_ret
    exact ⟨rfl, by repeat (first | exact HB | apply bl_drew | (refine bl_alloc ?_ _))⟩
theorem Local_c (o : Oa) (out : Bool) (w : World) : Calls Tryz.prog 110 #[o.v, .bool out] w fun e w' => e = .returned (o.local out).v ∧ Below w.heap.size w w' := by
  have HB := bl_refl w
  go_enter Tryz.func110, Tryz.ntmps110
  go_wp2
  exact bodyPost_ret (v := (o.local out).v) (by simp [results, Tryz.results110, go_sem, Oa.local]) rfl ⟨rfl, by repeat (first | exact HB | apply bl_drew | (refine bl_alloc ?_ _))⟩
theorem Remote_c (o : Oa) (out : Bool) (w : World) : Calls Tryz.prog 145 #[o.v, .bool out] w fun e w' => e = .returned (.tuple #[(o.remote out).v, .bool (o.news out)]) ∧ Below w.heap.size w w' := by
  have HB := bl_refl w
  obtain ⟨a, b, c⟩ := o
  cases b <;> cases c <;> cases out
  all_goals
    go_enter Tryz.func145, Tryz.ntmps145
    go_wp2
    refine bodyPost_ret ?h1 rfl ⟨rfl, ?h2⟩
    case h1 => simp [results, Tryz.results145, go_sem, Oa.remote, Oa.news]
    case h2 => exact (by repeat (first | exact HB | apply bl_drew | (refine bl_alloc ?_ _) | (refine bl_set ?_ (by omega) _)))
theorem Continue_c (o : Oa) (w : World) : Calls Tryz.prog 74 #[o.v] w fun e w' => e = .returned (.tuple #[o.continue.v, .bool o.goes]) ∧ Below w.heap.size w w' := by
  have HB := bl_refl w
  obtain ⟨a, b, c⟩ := o
  cases a <;> cases b
  all_goals
    go_enter Tryz.func74, Tryz.ntmps74
    go_wp2
    refine bodyPost_ret ?h1 rfl ⟨rfl, ?h2⟩
    case h1 => simp [results, Tryz.results74, go_sem, Oa.continue, Oa.goes]
    case h2 => exact (by repeat (first | exact HB | apply bl_drew | (refine bl_alloc ?_ _) | (refine bl_set ?_ (by omega) _)))
theorem Most_c (p : Pf) (w : World) : Calls Tryz.prog 156 #[p.v] w fun e w' => e = .returned (.int .i64 p.most) ∧ Below w.heap.size w w' := by
  have HB := bl_refl w
  obtain ⟨a, b, c⟩ := p
  cases a
  all_goals
    go_enter Tryz.func156, Tryz.ntmps156
    go_wp2
    go_ret
    exact ⟨rfl, (by repeat (first | exact HB | apply bl_drew | (refine bl_alloc ?_ _) | (refine bl_set ?_ (by omega) _)))⟩
theorem LeakUnit_c (l : Le) (wrong : Bool) (w : World) (hl : l.ok) : Calls Tryz.prog 119 #[l.v, .bool wrong] w fun e w' => e = .returned (.tuple #[(l.unit wrong).v, .bool (l.bad wrong)]) ∧ Below w.heap.size w w' := by
  have HB := bl_refl w
  obtain ⟨n, seen⟩ := l
  obtain ⟨h0, h1, h2, h3⟩ := hl
  dsimp only at h0 h1 h2 h3
  by_cases c0 : 0 < n
  · by_cases c1 : 255 ≤ seen
    · by_cases c2 : n = 1
      · subst c2
        cases wrong
        all_goals
          go_enter Tryz.func119, Tryz.ntmps119
          go_wp2
          go_region
          all_goals
            go_wp2
            refine bodyPost_ret ?h1 rfl ⟨rfl, ?h2⟩
            case h1 => simp [results, Tryz.results119, go_sem, Le.bad, Le.unit, Le.age, c1]
            case h2 => exact (by repeat (first | exact HB | apply bl_drew | (refine bl_alloc ?_ _) | (refine bl_set ?_ (by omega) _)))
      · have c3 : (n - 1 == 0) = false := by simp; omega
        have c4 : ¬ n - 1 = 0 := by omega
        cases wrong
        all_goals
          go_enter Tryz.func119, Tryz.ntmps119
          go_wp2
          go_region
          all_goals
            go_wp2
            refine bodyPost_ret ?h1 rfl ⟨rfl, ?h2⟩
            case h1 => simp [results, Tryz.results119, go_sem, Le.bad, Le.unit, Le.age, c0, c1, c4]
            case h2 => exact (by repeat (first | exact HB | apply bl_drew | (refine bl_alloc ?_ _) | (refine bl_set ?_ (by omega) _)))
    · have c3 : (n == 0) = false := by simp; omega
      have c4 : ¬ n = 0 := by omega
      cases wrong
      all_goals
        go_enter Tryz.func119, Tryz.ntmps119
        go_wp2
        go_region
        all_goals
          go_wp2
          refine bodyPost_ret ?h1 rfl ⟨rfl, ?h2⟩
          case h1 => simp [results, Tryz.results119, go_sem, Le.bad, Le.unit, Le.age, c0, (show ¬ 255 ≤ seen by omega), c4]
          case h2 => exact (by repeat (first | exact HB | apply bl_drew | (refine bl_alloc ?_ _) | (refine bl_set ?_ (by omega) _)))
  · obtain rfl : n = 0 := by omega
    cases wrong
    all_goals
      go_enter Tryz.func119, Tryz.ntmps119
      go_wp2
      go_region
      all_goals
        go_wp2
        refine bodyPost_ret ?h1 rfl ⟨rfl, ?h2⟩
        case h1 => simp [results, Tryz.results119, go_sem, Le.bad, Le.unit, Le.age]
        case h2 => exact (by repeat (first | exact HB | apply bl_drew | (refine bl_alloc ?_ _) | (refine bl_set ?_ (by omega) _)))
end Go.Proofs.YtdffinnnjcgfcaaGreatK
