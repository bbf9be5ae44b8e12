/- The walks of packages bucket and outage: values that are handed in and handed back. The walk of a proving's count of units. -/
import Derived.Test.YtcllbmjmefeknaaGreatProg
import Derived.Test.YtcllbmjmefeknaaGreatCore
import Derived.Test.YtcllbmjmefeknaaGreatM
import Derived.RegionTactic
namespace Go.Proofs.YtcllbmjmefeknaaGreatK
/-! ### The walks of packages bucket and outage: values that are handed in and handed back. -/
section
open Go Go.RowKit
set_option linter.unusedVariables false
set_option maxHeartbeats 1000000
set_option maxRecDepth 100000
abbrev Oa.v (o : Oa) : Value := .agg #[.bool o.own, .bool o.their, .bool o.wait]
abbrev Le.v (l : Le) : Value := .agg #[.int .i64 l.n, .int .i64 l.seen]
abbrev Pf.v (p : Pf) : Value := .agg #[.bool p.hurry, .int .i64 p.n, .int .i64 p.tries]
theorem Is_c (o : Oa) (w : World) : Calls Tryz.prog 168 #[o.v] w fun e w' => e = .returned (.bool o.is) ∧ Below w.heap.size w w' := by
  have HB := bl_refl w
  obtain ⟨a, b, c⟩ := o
  cases a <;> cases b <;> cases c
  all_goals
    go_enter Tryz.func168, Tryz.ntmps168
    go_wp2
    go_ret
    exact ⟨rfl, by repeat (first | exact HB | apply bl_drew | (refine bl_alloc ?_ _))⟩
theorem Local_c (o : Oa) (out : Bool) (w : World) : Calls Tryz.prog 166 #[o.v, .bool out] w fun e w' => e = .returned (o.local out).v ∧ Below w.heap.size w w' := by
  have HB := bl_refl w
  go_enter Tryz.func166, Tryz.ntmps166
  go_wp2
  exact bodyPost_ret (v := (o.local out).v) (by simp [results, Tryz.results166, go_sem, Oa.local]) rfl ⟨rfl, by repeat (first | exact HB | apply bl_drew | (refine bl_alloc ?_ _))⟩
theorem Remote_c (o : Oa) (out : Bool) (w : World) : Calls Tryz.prog 195 #[o.v, .bool out] w fun e w' => e = .returned (.tuple #[(o.remote out).v, .bool (o.news out)]) ∧ Below w.heap.size w w' := by
  have HB := bl_refl w
  obtain ⟨a, b, c⟩ := o
  cases b <;> cases c <;> cases out
  all_goals
    go_enter Tryz.func195, Tryz.ntmps195
    go_wp2
    refine bodyPost_ret ?h1 rfl ⟨rfl, ?h2⟩
    case h1 => simp [results, Tryz.results195, go_sem, Oa.remote, Oa.news]
    case h2 => exact (by repeat (first | exact HB | apply bl_drew | (refine bl_alloc ?_ _) | (refine bl_set ?_ (by omega) _)))
theorem Continue_c (o : Oa) (w : World) : Calls Tryz.prog 133 #[o.v] w fun e w' => e = .returned (.tuple #[o.continue.v, .bool o.goes]) ∧ Below w.heap.size w w' := by
  have HB := bl_refl w
  obtain ⟨a, b, c⟩ := o
  cases a <;> cases b
  all_goals
    go_enter Tryz.func133, Tryz.ntmps133
    go_wp2
    refine bodyPost_ret ?h1 rfl ⟨rfl, ?h2⟩
    case h1 => simp [results, Tryz.results133, go_sem, Oa.continue, Oa.goes]
    case h2 => exact (by repeat (first | exact HB | apply bl_drew | (refine bl_alloc ?_ _) | (refine bl_set ?_ (by omega) _)))
theorem Most_c (p : Pf) (w : World) : Calls Tryz.prog 199 #[p.v] w fun e w' => e = .returned (.int .i64 p.most) ∧ Below w.heap.size w w' := by
  have HB := bl_refl w
  obtain ⟨a, b, c⟩ := p
  cases a
  all_goals
    go_enter Tryz.func199, Tryz.ntmps199
    go_wp2
    go_ret
    exact ⟨rfl, (by repeat (first | exact HB | apply bl_drew | (refine bl_alloc ?_ _) | (refine bl_set ?_ (by omega) _)))⟩
theorem LeakUnit_c (l : Le) (wrong : Bool) (w : World) (hl : l.ok) : Calls Tryz.prog 179 #[l.v, .bool wrong] w fun e w' => e = .returned (.tuple #[(l.unit wrong).v, .bool (l.bad wrong)]) ∧ Below w.heap.size w w' := by
  have HB := bl_refl w
  obtain ⟨n, seen⟩ := l
  obtain ⟨h0, h1, h2, h3⟩ := hl
  dsimp only at h0 h1 h2 h3
  by_cases c0 : 0 < n
  · by_cases c1 : 255 ≤ seen
    · by_cases c2 : n = 1
      · subst c2
        cases wrong
        all_goals
          go_enter Tryz.func179, Tryz.ntmps179
          go_wp2
          go_region
          all_goals
            go_wp2
            refine bodyPost_ret ?h1 rfl ⟨rfl, ?h2⟩
            case h1 => simp [results, Tryz.results179, go_sem, Le.bad, Le.unit, Le.age, c1]
            case h2 => exact (by repeat (first | exact HB | apply bl_drew | (refine bl_alloc ?_ _) | (refine bl_set ?_ (by omega) _)))
      · have c3 : (n - 1 == 0) = false := by simp; omega
        have c4 : ¬ n - 1 = 0 := by omega
        cases wrong
        all_goals
          go_enter Tryz.func179, Tryz.ntmps179
          go_wp2
          go_region
          all_goals
            go_wp2
            refine bodyPost_ret ?h1 rfl ⟨rfl, ?h2⟩
            case h1 => simp [results, Tryz.results179, go_sem, Le.bad, Le.unit, Le.age, c0, c1, c4]
            case h2 => exact (by repeat (first | exact HB | apply bl_drew | (refine bl_alloc ?_ _) | (refine bl_set ?_ (by omega) _)))
    · have c3 : (n == 0) = false := by simp; omega
      have c4 : ¬ n = 0 := by omega
      cases wrong
      all_goals
        go_enter Tryz.func179, Tryz.ntmps179
        go_wp2
        go_region
        all_goals
          go_wp2
          refine bodyPost_ret ?h1 rfl ⟨rfl, ?h2⟩
          case h1 => simp [results, Tryz.results179, go_sem, Le.bad, Le.unit, Le.age, c0, (show ¬ 255 ≤ seen by omega), c4]
          case h2 => exact (by repeat (first | exact HB | apply bl_drew | (refine bl_alloc ?_ _) | (refine bl_set ?_ (by omega) _)))
  · obtain rfl : n = 0 := by omega
    cases wrong
    all_goals
      go_enter Tryz.func179, Tryz.ntmps179
      go_wp2
      go_region
      all_goals
        go_wp2
        refine bodyPost_ret ?h1 rfl ⟨rfl, ?h2⟩
        case h1 => simp [results, Tryz.results179, go_sem, Le.bad, Le.unit, Le.age]
        case h2 => exact (by repeat (first | exact HB | apply bl_drew | (refine bl_alloc ?_ _) | (refine bl_set ?_ (by omega) _)))
end
/-! ### The walk of a proving's count of units. -/
section
open Go Go.RowKit
set_option linter.unusedVariables false
set_option maxHeartbeats 1000000
set_option maxRecDepth 100000
theorem Pf.laid : Laid Tryz.prog 232 3 := ⟨⟨_, Tryz.underlying232, rfl⟩, by kernel_rfl⟩
theorem ProofUnit_tt (n tries : Int) (w : World) (h0 : 0 ≤ n) (h1 : n ≤ 10) (h2 : 0 ≤ tries) (h3 : tries ≤ 10) : Calls Tryz.prog 193 #[(Pf.mk true n tries).v, .bool true] w fun e w' => e = .returned (.tuple #[((Pf.mk true n tries).unit true).v, .bool ((Pf.mk true n tries).anew true), .bool ((Pf.mk true n tries).over true)]) ∧ Below w.heap.size w w' := by
  have HB := bl_refl w
  by_cases c : n + 1 < 1
  · omega
  · have hld := Lib.hid (Most_c ⟨true, n + 1, tries⟩)
    have hm : (Pf.mk true (n + 1) tries).most = 1 := rfl
    rw [hm] at hld
    go_enter Tryz.func193, Tryz.ntmps193
    go_wp2
    have hblk := Blk.alloc (Blk.new w #[.bool true, .int .i64 (n + 1), .int .i64 tries] 232) (.cells #[.bool false, .int .i64 0, .int .i64 0] 232)
    have hblk2 : Blk ((w.alloc (.cells #[.bool true, .int .i64 (n + 1), .int .i64 tries] 232)).alloc (.cells #[.bool false, .int .i64 0, .int .i64 0] 232)) (w.heap.size + 1) #[.bool false, .int .i64 0, .int .i64 0] 232 := by simpa using Blk.new (w.alloc (.cells #[.bool true, .int .i64 (n + 1), .int .i64 tries] 232)) #[.bool false, .int .i64 0, .int .i64 0] 232
    replace HB := bl_alloc (bl_alloc HB (.cells #[.bool true, .int .i64 (n + 1), .int .i64 tries] 232)) (.cells #[.bool false, .int .i64 0, .int .i64 0] 232)
    refine wp_region_up (by kernel_rfl) (by kernel_rfl) ?_
    have up_hblk := fun (g : Up _) => (Blk.below hblk g.ok).c
    repeat (go_big_quiet_step (exact Up.calls _ (hld.out _)))
    refine wpQuiet_nil ?_
    clear up_hblk
    refine up_elim (fun w2 hb_w2 => ?_)
    replace HB := bl_then HB hb_w2
    have H2 := Lib.hid (Blk.below hblk hb_w2)
    have H3 := Lib.hid (Blk.below hblk2 hb_w2)
    have hc2 := H2.out.c
    have hf2 := H2.out.f
    have hc3 := H3.out.c
    have hf3 := H3.out.f
    have hne : w.heap.size ≠ w.heap.size + 1 := by omega
    clear hblk hblk2 hb_w2 hld hm
    go_wp2
    go_region
    all_goals
      go_wp2
      refine bodyPost_ret (res_ctt rfl Pf.laid rfl (Blk.drew (((((H3.out.far hne 1 (.int .i64 0)).far hne 2 (.int .i64 (tries + 1))).set 0 (.bool true)).set 1 (.int .i64 (0))).set 2 (.int .i64 (tries + 1)))) (by simp)) rfl ⟨?_, ?_⟩
      · simp [Pf.unit, Pf.anew, Pf.over, Pf.seen, Pf.most, (show 1 ≤ n + 1 by omega)]
      · repeat (first | exact HB | apply bl_drew | (refine bl_set ?_ (by omega) _))
theorem ProofUnit_tf (n tries : Int) (w : World) (h0 : 0 ≤ n) (h1 : n ≤ 10) (h2 : 0 ≤ tries) (h3 : tries ≤ 10) : Calls Tryz.prog 193 #[(Pf.mk true n tries).v, .bool false] w fun e w' => e = .returned (.tuple #[((Pf.mk true n tries).unit false).v, .bool ((Pf.mk true n tries).anew false), .bool ((Pf.mk true n tries).over false)]) ∧ Below w.heap.size w w' := by
  have HB := bl_refl w
  by_cases c : n < 1
  · have hld := Lib.hid (Most_c ⟨true, n, tries⟩)
    have hm : (Pf.mk true (n) tries).most = 1 := rfl
    rw [hm] at hld
    go_enter Tryz.func193, Tryz.ntmps193
    go_wp2
    have hblk := Blk.alloc (Blk.new w #[.bool true, .int .i64 (n), .int .i64 tries] 232) (.cells #[.bool false, .int .i64 0, .int .i64 0] 232)
    have hblk2 : Blk ((w.alloc (.cells #[.bool true, .int .i64 (n), .int .i64 tries] 232)).alloc (.cells #[.bool false, .int .i64 0, .int .i64 0] 232)) (w.heap.size + 1) #[.bool false, .int .i64 0, .int .i64 0] 232 := by simpa using Blk.new (w.alloc (.cells #[.bool true, .int .i64 (n), .int .i64 tries] 232)) #[.bool false, .int .i64 0, .int .i64 0] 232
    replace HB := bl_alloc (bl_alloc HB (.cells #[.bool true, .int .i64 (n), .int .i64 tries] 232)) (.cells #[.bool false, .int .i64 0, .int .i64 0] 232)
    refine wp_region_up (by kernel_rfl) (by kernel_rfl) ?_
    have up_hblk := fun (g : Up _) => (Blk.below hblk g.ok).c
    repeat (go_big_quiet_step (exact Up.calls _ (hld.out _)))
    refine wpQuiet_nil ?_
    clear up_hblk
    refine up_elim (fun w2 hb_w2 => ?_)
    replace HB := bl_then HB hb_w2
    have H2 := Lib.hid (Blk.below hblk hb_w2)
    have H3 := Lib.hid (Blk.below hblk2 hb_w2)
    have hc2 := H2.out.c
    have hf2 := H2.out.f
    have hc3 := H3.out.c
    have hf3 := H3.out.f
    have hne : w.heap.size ≠ w.heap.size + 1 := by omega
    clear hblk hblk2 hb_w2 hld hm
    go_wp2
    refine bodyPost_ret (res_ctt rfl Pf.laid rfl ((((H3.out.set 0 (.bool true)).set 1 (.int .i64 (n))).set 2 (.int .i64 (tries)))) (by simp)) rfl ⟨?_, ?_⟩
    · simp [Pf.unit, Pf.anew, Pf.over, Pf.seen, Pf.most, (show ¬ 1 ≤ n by omega)]
    · repeat (first | exact HB | apply bl_drew | (refine bl_set ?_ (by omega) _))
  · have hld := Lib.hid (Most_c ⟨true, n, tries⟩)
    have hm : (Pf.mk true (n) tries).most = 1 := rfl
    rw [hm] at hld
    go_enter Tryz.func193, Tryz.ntmps193
    go_wp2
    have hblk := Blk.alloc (Blk.new w #[.bool true, .int .i64 (n), .int .i64 tries] 232) (.cells #[.bool false, .int .i64 0, .int .i64 0] 232)
    have hblk2 : Blk ((w.alloc (.cells #[.bool true, .int .i64 (n), .int .i64 tries] 232)).alloc (.cells #[.bool false, .int .i64 0, .int .i64 0] 232)) (w.heap.size + 1) #[.bool false, .int .i64 0, .int .i64 0] 232 := by simpa using Blk.new (w.alloc (.cells #[.bool true, .int .i64 (n), .int .i64 tries] 232)) #[.bool false, .int .i64 0, .int .i64 0] 232
    replace HB := bl_alloc (bl_alloc HB (.cells #[.bool true, .int .i64 (n), .int .i64 tries] 232)) (.cells #[.bool false, .int .i64 0, .int .i64 0] 232)
    refine wp_region_up (by kernel_rfl) (by kernel_rfl) ?_
    have up_hblk := fun (g : Up _) => (Blk.below hblk g.ok).c
    repeat (go_big_quiet_step (exact Up.calls _ (hld.out _)))
    refine wpQuiet_nil ?_
    clear up_hblk
    refine up_elim (fun w2 hb_w2 => ?_)
    replace HB := bl_then HB hb_w2
    have H2 := Lib.hid (Blk.below hblk hb_w2)
    have H3 := Lib.hid (Blk.below hblk2 hb_w2)
    have hc2 := H2.out.c
    have hf2 := H2.out.f
    have hc3 := H3.out.c
    have hf3 := H3.out.f
    have hne : w.heap.size ≠ w.heap.size + 1 := by omega
    clear hblk hblk2 hb_w2 hld hm
    go_wp2
    go_region
    all_goals
      go_wp2
      refine bodyPost_ret (res_ctt rfl Pf.laid rfl (Blk.drew (((((H3.out.far hne 1 (.int .i64 0)).far hne 2 (.int .i64 (tries + 1))).set 0 (.bool true)).set 1 (.int .i64 (0))).set 2 (.int .i64 (tries + 1)))) (by simp)) rfl ⟨?_, ?_⟩
      · simp [Pf.unit, Pf.anew, Pf.over, Pf.seen, Pf.most, (show 1 ≤ n by omega)]
      · repeat (first | exact HB | apply bl_drew | (refine bl_set ?_ (by omega) _))
theorem ProofUnit_ft (n tries : Int) (w : World) (h0 : 0 ≤ n) (h1 : n ≤ 10) (h2 : 0 ≤ tries) (h3 : tries ≤ 10) : Calls Tryz.prog 193 #[(Pf.mk false n tries).v, .bool true] w fun e w' => e = .returned (.tuple #[((Pf.mk false n tries).unit true).v, .bool ((Pf.mk false n tries).anew true), .bool ((Pf.mk false n tries).over true)]) ∧ Below w.heap.size w w' := by
  have HB := bl_refl w
  by_cases c : n + 1 < 4
  · have hld := Lib.hid (Most_c ⟨false, n + 1, tries⟩)
    have hm : (Pf.mk false (n + 1) tries).most = 4 := rfl
    rw [hm] at hld
    go_enter Tryz.func193, Tryz.ntmps193
    go_wp2
    have hblk := Blk.alloc (Blk.new w #[.bool false, .int .i64 (n + 1), .int .i64 tries] 232) (.cells #[.bool false, .int .i64 0, .int .i64 0] 232)
    have hblk2 : Blk ((w.alloc (.cells #[.bool false, .int .i64 (n + 1), .int .i64 tries] 232)).alloc (.cells #[.bool false, .int .i64 0, .int .i64 0] 232)) (w.heap.size + 1) #[.bool false, .int .i64 0, .int .i64 0] 232 := by simpa using Blk.new (w.alloc (.cells #[.bool false, .int .i64 (n + 1), .int .i64 tries] 232)) #[.bool false, .int .i64 0, .int .i64 0] 232
    replace HB := bl_alloc (bl_alloc HB (.cells #[.bool false, .int .i64 (n + 1), .int .i64 tries] 232)) (.cells #[.bool false, .int .i64 0, .int .i64 0] 232)
    refine wp_region_up (by kernel_rfl) (by kernel_rfl) ?_
    have up_hblk := fun (g : Up _) => (Blk.below hblk g.ok).c
    repeat (go_big_quiet_step (exact Up.calls _ (hld.out _)))
    refine wpQuiet_nil ?_
    clear up_hblk
    refine up_elim (fun w2 hb_w2 => ?_)
    replace HB := bl_then HB hb_w2
    have H2 := Lib.hid (Blk.below hblk hb_w2)
    have H3 := Lib.hid (Blk.below hblk2 hb_w2)
    have hc2 := H2.out.c
    have hf2 := H2.out.f
    have hc3 := H3.out.c
    have hf3 := H3.out.f
    have hne : w.heap.size ≠ w.heap.size + 1 := by omega
    clear hblk hblk2 hb_w2 hld hm
    go_wp2
    refine bodyPost_ret (res_ctt rfl Pf.laid rfl ((((H3.out.set 0 (.bool false)).set 1 (.int .i64 (n + 1))).set 2 (.int .i64 (tries)))) (by simp)) rfl ⟨?_, ?_⟩
    · simp [Pf.unit, Pf.anew, Pf.over, Pf.seen, Pf.most, (show ¬ 4 ≤ n + 1 by omega)]
    · repeat (first | exact HB | apply bl_drew | (refine bl_set ?_ (by omega) _))
  · have hld := Lib.hid (Most_c ⟨false, n + 1, tries⟩)
    have hm : (Pf.mk false (n + 1) tries).most = 4 := rfl
    rw [hm] at hld
    go_enter Tryz.func193, Tryz.ntmps193
    go_wp2
    have hblk := Blk.alloc (Blk.new w #[.bool false, .int .i64 (n + 1), .int .i64 tries] 232) (.cells #[.bool false, .int .i64 0, .int .i64 0] 232)
    have hblk2 : Blk ((w.alloc (.cells #[.bool false, .int .i64 (n + 1), .int .i64 tries] 232)).alloc (.cells #[.bool false, .int .i64 0, .int .i64 0] 232)) (w.heap.size + 1) #[.bool false, .int .i64 0, .int .i64 0] 232 := by simpa using Blk.new (w.alloc (.cells #[.bool false, .int .i64 (n + 1), .int .i64 tries] 232)) #[.bool false, .int .i64 0, .int .i64 0] 232
    replace HB := bl_alloc (bl_alloc HB (.cells #[.bool false, .int .i64 (n + 1), .int .i64 tries] 232)) (.cells #[.bool false, .int .i64 0, .int .i64 0] 232)
    refine wp_region_up (by kernel_rfl) (by kernel_rfl) ?_
    have up_hblk := fun (g : Up _) => (Blk.below hblk g.ok).c
    repeat (go_big_quiet_step (exact Up.calls _ (hld.out _)))
    refine wpQuiet_nil ?_
    clear up_hblk
    refine up_elim (fun w2 hb_w2 => ?_)
    replace HB := bl_then HB hb_w2
    have H2 := Lib.hid (Blk.below hblk hb_w2)
    have H3 := Lib.hid (Blk.below hblk2 hb_w2)
    have hc2 := H2.out.c
    have hf2 := H2.out.f
    have hc3 := H3.out.c
    have hf3 := H3.out.f
    have hne : w.heap.size ≠ w.heap.size + 1 := by omega
    clear hblk hblk2 hb_w2 hld hm
    go_wp2
    go_region
    all_goals
      go_wp2
      refine bodyPost_ret (res_ctt rfl Pf.laid rfl (Blk.drew (((((H3.out.far hne 1 (.int .i64 0)).far hne 2 (.int .i64 (tries + 1))).set 0 (.bool false)).set 1 (.int .i64 (0))).set 2 (.int .i64 (tries + 1)))) (by simp)) rfl ⟨?_, ?_⟩
      · simp [Pf.unit, Pf.anew, Pf.over, Pf.seen, Pf.most, (show 4 ≤ n + 1 by omega)]
      · repeat (first | exact HB | apply bl_drew | (refine bl_set ?_ (by omega) _))
theorem ProofUnit_ff (n tries : Int) (w : World) (h0 : 0 ≤ n) (h1 : n ≤ 10) (h2 : 0 ≤ tries) (h3 : tries ≤ 10) : Calls Tryz.prog 193 #[(Pf.mk false n tries).v, .bool false] w fun e w' => e = .returned (.tuple #[((Pf.mk false n tries).unit false).v, .bool ((Pf.mk false n tries).anew false), .bool ((Pf.mk false n tries).over false)]) ∧ Below w.heap.size w w' := by
  have HB := bl_refl w
  by_cases c : n < 4
  · have hld := Lib.hid (Most_c ⟨false, n, tries⟩)
    have hm : (Pf.mk false (n) tries).most = 4 := rfl
    rw [hm] at hld
    go_enter Tryz.func193, Tryz.ntmps193
    go_wp2
    have hblk := Blk.alloc (Blk.new w #[.bool false, .int .i64 (n), .int .i64 tries] 232) (.cells #[.bool false, .int .i64 0, .int .i64 0] 232)
    have hblk2 : Blk ((w.alloc (.cells #[.bool false, .int .i64 (n), .int .i64 tries] 232)).alloc (.cells #[.bool false, .int .i64 0, .int .i64 0] 232)) (w.heap.size + 1) #[.bool false, .int .i64 0, .int .i64 0] 232 := by simpa using Blk.new (w.alloc (.cells #[.bool false, .int .i64 (n), .int .i64 tries] 232)) #[.bool false, .int .i64 0, .int .i64 0] 232
    replace HB := bl_alloc (bl_alloc HB (.cells #[.bool false, .int .i64 (n), .int .i64 tries] 232)) (.cells #[.bool false, .int .i64 0, .int .i64 0] 232)
    refine wp_region_up (by kernel_rfl) (by kernel_rfl) ?_
    have up_hblk := fun (g : Up _) => (Blk.below hblk g.ok).c
    repeat (go_big_quiet_step (exact Up.calls _ (hld.out _)))
    refine wpQuiet_nil ?_
    clear up_hblk
    refine up_elim (fun w2 hb_w2 => ?_)
    replace HB := bl_then HB hb_w2
    have H2 := Lib.hid (Blk.below hblk hb_w2)
    have H3 := Lib.hid (Blk.below hblk2 hb_w2)
    have hc2 := H2.out.c
    have hf2 := H2.out.f
    have hc3 := H3.out.c
    have hf3 := H3.out.f
    have hne : w.heap.size ≠ w.heap.size + 1 := by omega
    clear hblk hblk2 hb_w2 hld hm
    go_wp2
    refine bodyPost_ret (res_ctt rfl Pf.laid rfl ((((H3.out.set 0 (.bool false)).set 1 (.int .i64 (n))).set 2 (.int .i64 (tries)))) (by simp)) rfl ⟨?_, ?_⟩
    · simp [Pf.unit, Pf.anew, Pf.over, Pf.seen, Pf.most, (show ¬ 4 ≤ n by omega)]
    · repeat (first | exact HB | apply bl_drew | (refine bl_set ?_ (by omega) _))
  · have hld := Lib.hid (Most_c ⟨false, n, tries⟩)
    have hm : (Pf.mk false (n) tries).most = 4 := rfl
    rw [hm] at hld
    go_enter Tryz.func193, Tryz.ntmps193
    go_wp2
    have hblk := Blk.alloc (Blk.new w #[.bool false, .int .i64 (n), .int .i64 tries] 232) (.cells #[.bool false, .int .i64 0, .int .i64 0] 232)
    have hblk2 : Blk ((w.alloc (.cells #[.bool false, .int .i64 (n), .int .i64 tries] 232)).alloc (.cells #[.bool false, .int .i64 0, .int .i64 0] 232)) (w.heap.size + 1) #[.bool false, .int .i64 0, .int .i64 0] 232 := by simpa using Blk.new (w.alloc (.cells #[.bool false, .int .i64 (n), .int .i64 tries] 232)) #[.bool false, .int .i64 0, .int .i64 0] 232
    replace HB := bl_alloc (bl_alloc HB (.cells #[.bool false, .int .i64 (n), .int .i64 tries] 232)) (.cells #[.bool false, .int .i64 0, .int .i64 0] 232)
    refine wp_region_up (by kernel_rfl) (by kernel_rfl) ?_
    have up_hblk := fun (g : Up _) => (Blk.below hblk g.ok).c
    repeat (go_big_quiet_step (exact Up.calls _ (hld.out _)))
    refine wpQuiet_nil ?_
    clear up_hblk
    refine up_elim (fun w2 hb_w2 => ?_)
    replace HB := bl_then HB hb_w2
    have H2 := Lib.hid (Blk.below hblk hb_w2)
    have H3 := Lib.hid (Blk.below hblk2 hb_w2)
    have hc2 := H2.out.c
    have hf2 := H2.out.f
    have hc3 := H3.out.c
    have hf3 := H3.out.f
    have hne : w.heap.size ≠ w.heap.size + 1 := by omega
    clear hblk hblk2 hb_w2 hld hm
    go_wp2
    go_region
    all_goals
      go_wp2
      refine bodyPost_ret (res_ctt rfl Pf.laid rfl (Blk.drew (((((H3.out.far hne 1 (.int .i64 0)).far hne 2 (.int .i64 (tries + 1))).set 0 (.bool false)).set 1 (.int .i64 (0))).set 2 (.int .i64 (tries + 1)))) (by simp)) rfl ⟨?_, ?_⟩
      · simp [Pf.unit, Pf.anew, Pf.over, Pf.seen, Pf.most, (show 4 ≤ n by omega)]
      · repeat (first | exact HB | apply bl_drew | (refine bl_set ?_ (by omega) _))
theorem ProofUnit_c (p : Pf) (wrong : Bool) (w : World) (hp : p.ok) : Calls Tryz.prog 193 #[p.v, .bool wrong] w fun e w' => e = .returned (.tuple #[(p.unit wrong).v, .bool (p.anew wrong), .bool (p.over wrong)]) ∧ Below w.heap.size w w' := by
  have HB := bl_refl w
  obtain ⟨hurry, n, tries⟩ := p
  obtain ⟨h0, h1, h2, h3⟩ := hp
  dsimp only at h0 h1 h2 h3
  cases hurry <;> cases wrong
  · exact ProofUnit_ff n tries w h0 h1 h2 h3
  · exact ProofUnit_ft n tries w h0 h1 h2 h3
  · exact ProofUnit_tf n tries w h0 h1 h2 h3
  · exact ProofUnit_tt n tries w h0 h1 h2 h3
end
end Go.Proofs.YtcllbmjmefeknaaGreatK
