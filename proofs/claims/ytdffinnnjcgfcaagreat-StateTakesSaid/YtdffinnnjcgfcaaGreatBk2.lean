/- The walk of a proving's count of units. -/
import Derived.Test.YtdffinnnjcgfcaaGreatProg
import Derived.Test.YtdffinnnjcgfcaaGreatCore
import Derived.Test.YtdffinnnjcgfcaaGreatM
import Derived.RegionTactic
import Derived.Test.YtdffinnnjcgfcaaGreatBkt
namespace Go.Proofs.YtdffinnnjcgfcaaGreatK
open Go Go.RowKit
set_option linter.unusedVariables false
set_option maxHeartbeats 1000000
set_option maxRecDepth 100000
theorem Pf.laid : Laid Tryz.prog 160 3 := ⟨⟨_, Tryz.underlying160, rfl⟩, by kernel_rfl⟩
theorem ProofUnit_tt (n tries : Int) (w : World) (h0 : 0 ≤ n) (h1 : n ≤ 10) (h2 : 0 ≤ tries) (h3 : tries ≤ 10) : Calls Tryz.prog 143 #[(Pf.mk true n tries).v, .bool true] w fun e w' => e = .returned (.tuple #[((Pf.mk true n tries).unit true).v, .bool ((Pf.mk true n tries).anew true), .bool ((Pf.mk true n tries).over true)]) ∧ Below w.heap.size w w' := by
  have HB := bl_refl w
  by_cases c : n + 1 < 1
  · omega
  · have hld := Lib.hid (Most_c ⟨true, n + 1, tries⟩)
    have hm : (Pf.mk true (n + 1) tries).most = 1 := rfl
    rw [hm] at hld
    go_enter Tryz.func143, Tryz.ntmps143
    go_wp2
    have hblk := Blk.alloc (Blk.new w #[.bool true, .int .i64 (n + 1), .int .i64 tries] 160) (.cells #[.bool false, .int .i64 0, .int .i64 0] 160)
    have hblk2 : Blk ((w.alloc (.cells #[.bool true, .int .i64 (n + 1), .int .i64 tries] 160)).alloc (.cells #[.bool false, .int .i64 0, .int .i64 0] 160)) (w.heap.size + 1) #[.bool false, .int .i64 0, .int .i64 0] 160 := by simpa using Blk.new (w.alloc (.cells #[.bool true, .int .i64 (n + 1), .int .i64 tries] 160)) #[.bool false, .int .i64 0, .int .i64 0] 160
    replace HB := bl_alloc (bl_alloc HB (.cells #[.bool true, .int .i64 (n + 1), .int .i64 tries] 160)) (.cells #[.bool false, .int .i64 0, .int .i64 0] 160)
    refine wp_region_up (by kernel_rfl) (by kernel_rfl) ?_
    have up_hblk := fun (g : Up _) => (Blk.below hblk g.ok).c
    repeat (go_big_quiet_step (exact Up.calls _ (hld.out _)))
    refine wpQuiet_nil ?_
    clear up_hblk
    refine up_elim (fun w2 hb_w2 => ?_)
    replace HB := bl_then HB hb_w2
    have H2 := Lib.hid (Blk.below hblk hb_w2)
    have H3 := Lib.hid (Blk.below hblk2 hb_w2)
    have hc2 := H2.out.c
    have hf2 := H2.out.f
    have hc3 := H3.out.c
    have hf3 := H3.out.f
    have hne : w.heap.size ≠ w.heap.size + 1 := by omega
    clear hblk hblk2 hb_w2 hld hm
    go_wp2
    go_region
    all_goals
      go_wp2
      refine bodyPost_ret (res_ctt rfl Pf.laid rfl (Blk.drew (((((H3.out.far hne 1 (.int .i64 0)).far hne 2 (.int .i64 (tries + 1))).set 0 (.bool true)).set 1 (.int .i64 (0))).set 2 (.int .i64 (tries + 1)))) (by simp)) rfl ⟨?_, ?_⟩
      · simp [Pf.unit, Pf.anew, Pf.over, Pf.seen, Pf.most, (show 1 ≤ n + 1 by omega)]
      · repeat (first | exact HB | apply bl_drew | (refine bl_set ?_ (by omega) _))
theorem ProofUnit_tf (n tries : Int) (w : World) (h0 : 0 ≤ n) (h1 : n ≤ 10) (h2 : 0 ≤ tries) (h3 : tries ≤ 10) : Calls Tryz.prog 143 #[(Pf.mk true n tries).v, .bool false] w fun e w' => e = .returned (.tuple #[((Pf.mk true n tries).unit false).v, .bool ((Pf.mk true n tries).anew false), .bool ((Pf.mk true n tries).over false)]) ∧ Below w.heap.size w w' := by
  have HB := bl_refl w
  by_cases c : n < 1
  · have hld := Lib.hid (Most_c ⟨true, n, tries⟩)
    have hm : (Pf.mk true (n) tries).most = 1 := rfl
    rw [hm] at hld
    go_enter Tryz.func143, Tryz.ntmps143
    go_wp2
    have hblk := Blk.alloc (Blk.new w #[.bool true, .int .i64 (n), .int .i64 tries] 160) (.cells #[.bool false, .int .i64 0, .int .i64 0] 160)
    have hblk2 : Blk ((w.alloc (.cells #[.bool true, .int .i64 (n), .int .i64 tries] 160)).alloc (.cells #[.bool false, .int .i64 0, .int .i64 0] 160)) (w.heap.size + 1) #[.bool false, .int .i64 0, .int .i64 0] 160 := by simpa using Blk.new (w.alloc (.cells #[.bool true, .int .i64 (n), .int .i64 tries] 160)) #[.bool false, .int .i64 0, .int .i64 0] 160
    replace HB := bl_alloc (bl_alloc HB (.cells #[.bool true, .int .i64 (n), .int .i64 tries] 160)) (.cells #[.bool false, .int .i64 0, .int .i64 0] 160)
    refine wp_region_up (by kernel_rfl) (by kernel_rfl) ?_
    have up_hblk := fun (g : Up _) => (Blk.below hblk g.ok).c
    repeat (go_big_quiet_step (exact Up.calls _ (hld.out _)))
    refine wpQuiet_nil ?_
    clear up_hblk
    refine up_elim (fun w2 hb_w2 => ?_)
    replace HB := bl_then HB hb_w2
    have H2 := Lib.hid (Blk.below hblk hb_w2)
    have H3 := Lib.hid (Blk.below hblk2 hb_w2)
    have hc2 := H2.out.c
    have hf2 := H2.out.f
    have hc3 := H3.out.c
    have hf3 := H3.out.f
    have hne : w.heap.size ≠ w.heap.size + 1 := by omega
    clear hblk hblk2 hb_w2 hld hm
    go_wp2
    refine bodyPost_ret (res_ctt rfl Pf.laid rfl ((((H3.out.set 0 (.bool true)).set 1 (.int .i64 (n))).set 2 (.int .i64 (tries)))) (by simp)) rfl ⟨?_, ?_⟩
    · simp [Pf.unit, Pf.anew, Pf.over, Pf.seen, Pf.most, (show ¬ 1 ≤ n by omega)]
    · repeat (first | exact HB | apply bl_drew | (refine bl_set ?_ (by omega) _))
  · have hld := Lib.hid (Most_c ⟨true, n, tries⟩)
    have hm : (Pf.mk true (n) tries).most = 1 := rfl
    rw [hm] at hld
    go_enter Tryz.func143, Tryz.ntmps143
    go_wp2
    have hblk := Blk.alloc (Blk.new w #[.bool true, .int .i64 (n), .int .i64 tries] 160) (.cells #[.bool false, .int .i64 0, .int .i64 0] 160)
    have hblk2 : Blk ((w.alloc (.cells #[.bool true, .int .i64 (n), .int .i64 tries] 160)).alloc (.cells #[.bool false, .int .i64 0, .int .i64 0] 160)) (w.heap.size + 1) #[.bool false, .int .i64 0, .int .i64 0] 160 := by simpa using Blk.new (w.alloc (.cells #[.bool true, .int .i64 (n), .int .i64 tries] 160)) #[.bool false, .int .i64 0, .int .i64 0] 160
    replace HB := bl_alloc (bl_alloc HB (.cells #[.bool true, .int .i64 (n), .int .i64 tries] 160)) (.cells #[.bool false, .int .i64 0, .int .i64 0] 160)
    refine wp_region_up (by kernel_rfl) (by kernel_rfl) ?_
    have up_hblk := fun (g : Up _) => (Blk.below hblk g.ok).c
    repeat (go_big_quiet_step (exact Up.calls _ (hld.out _)))
    refine wpQuiet_nil ?_
    clear up_hblk
    refine up_elim (fun w2 hb_w2 => ?_)
    replace HB := bl_then HB hb_w2
    have H2 := Lib.hid (Blk.below hblk hb_w2)
    have H3 := Lib.hid (Blk.below hblk2 hb_w2)
    have hc2 := H2.out.c
    have hf2 := H2.out.f
    have hc3 := H3.out.c
    have hf3 := H3.out.f
    have hne : w.heap.size ≠ w.heap.size + 1 := by omega
    clear hblk hblk2 hb_w2 hld hm
    go_wp2
    go_region
    all_goals
      go_wp2
      refine bodyPost_ret (res_ctt rfl Pf.laid rfl (Blk.drew (((((H3.out.far hne 1 (.int .i64 0)).far hne 2 (.int .i64 (tries + 1))).set 0 (.bool true)).set 1 (.int .i64 (0))).set 2 (.int .i64 (tries + 1)))) (by simp)) rfl ⟨?_, ?_⟩
      · simp [Pf.unit, Pf.anew, Pf.over, Pf.seen, Pf.most, (show 1 ≤ n by omega)]
      · repeat (first | exact HB | apply bl_drew | (refine bl_set ?_ (by omega) _))
theorem ProofUnit_ft (n tries : Int) (w : World) (h0 : 0 ≤ n) (h1 : n ≤ 10) (h2 : 0 ≤ tries) (h3 : tries ≤ 10) : Calls Tryz.prog 143 #[(Pf.mk false n tries).v, .bool true] w fun e w' => e = .returned (.tuple #[((Pf.mk false n tries).unit true).v, .bool ((Pf.mk false n tries).anew true), .bool ((Pf.mk false n tries).over true)]) ∧ Below w.heap.size w w' := by
  have HB := bl_refl w
  by_cases c : n + 1 < 4
  · have hld := Lib.hid (Most_c ⟨false, n + 1, tries⟩)
    have hm : (Pf.mk false (n + 1) tries).most = 4 := rfl
    rw [hm] at hld
    go_enter Tryz.func143, Tryz.ntmps143
    go_wp2
    have hblk := Blk.alloc (Blk.new w #[.bool false, .int .i64 (n + 1), .int .i64 tries] 160) (.cells #[.bool false, .int .i64 0, .int .i64 0] 160)
    have hblk2 : Blk ((w.alloc (.cells #[.bool false, .int .i64 (n + 1), .int .i64 tries] 160)).alloc (.cells #[.bool false, .int .i64 0, .int .i64 0] 160)) (w.heap.size + 1) #[.bool false, .int .i64 0, .int .i64 0] 160 := by simpa using Blk.new (w.alloc (.cells #[.bool false, .int .i64 (n + 1), .int .i64 tries] 160)) #[.bool false, .int .i64 0, .int .i64 0] 160
    replace HB := bl_alloc (bl_alloc HB (.cells #[.bool false, .int .i64 (n + 1), .int .i64 tries] 160)) (.cells #[.bool false, .int .i64 0, .int .i64 0] 160)
    refine wp_region_up (by kernel_rfl) (by kernel_rfl) ?_
    have up_hblk := fun (g : Up _) => (Blk.below hblk g.ok).c
    repeat (go_big_quiet_step (exact Up.calls _ (hld.out _)))
    refine wpQuiet_nil ?_
    clear up_hblk
    refine up_elim (fun w2 hb_w2 => ?_)
    replace HB := bl_then HB hb_w2
    have H2 := Lib.hid (Blk.below hblk hb_w2)
    have H3 := Lib.hid (Blk.below hblk2 hb_w2)
    have hc2 := H2.out.c
    have hf2 := H2.out.f
    have hc3 := H3.out.c
    have hf3 := H3.out.f
    have hne : w.heap.size ≠ w.heap.size + 1 := by omega
    clear hblk hblk2 hb_w2 hld hm
    go_wp2
    refine bodyPost_ret (res_ctt rfl Pf.laid rfl ((((H3.out.set 0 (.bool false)).set 1 (.int .i64 (n + 1))).set 2 (.int .i64 (tries)))) (by simp)) rfl ⟨?_, ?_⟩
    · simp [Pf.unit, Pf.anew, Pf.over, Pf.seen, Pf.most, (show ¬ 4 ≤ n + 1 by omega)]
    · repeat (first | exact HB | apply bl_drew | (refine bl_set ?_ (by omega) _))
  · have hld := Lib.hid (Most_c ⟨false, n + 1, tries⟩)
    have hm : (Pf.mk false (n + 1) tries).most = 4 := rfl
    rw [hm] at hld
    go_enter Tryz.func143, Tryz.ntmps143
    go_wp2
    have hblk := Blk.alloc (Blk.new w #[.bool false, .int .i64 (n + 1), .int .i64 tries] 160) (.cells #[.bool false, .int .i64 0, .int .i64 0] 160)
    have hblk2 : Blk ((w.alloc (.cells #[.bool false, .int .i64 (n + 1), .int .i64 tries] 160)).alloc (.cells #[.bool false, .int .i64 0, .int .i64 0] 160)) (w.heap.size + 1) #[.bool false, .int .i64 0, .int .i64 0] 160 := by simpa using Blk.new (w.alloc (.cells #[.bool false, .int .i64 (n + 1), .int .i64 tries] 160)) #[.bool false, .int .i64 0, .int .i64 0] 160
    replace HB := bl_alloc (bl_alloc HB (.cells #[.bool false, .int .i64 (n + 1), .int .i64 tries] 160)) (.cells #[.bool false, .int .i64 0, .int .i64 0] 160)
    refine wp_region_up (by kernel_rfl) (by kernel_rfl) ?_
    have up_hblk := fun (g : Up _) => (Blk.below hblk g.ok).c
    repeat (go_big_quiet_step (exact Up.calls _ (hld.out _)))
    refine wpQuiet_nil ?_
    clear up_hblk
    refine up_elim (fun w2 hb_w2 => ?_)
    replace HB := bl_then HB hb_w2
    have H2 := Lib.hid (Blk.below hblk hb_w2)
    have H3 := Lib.hid (Blk.below hblk2 hb_w2)
    have hc2 := H2.out.c
    have hf2 := H2.out.f
    have hc3 := H3.out.c
    have hf3 := H3.out.f
    have hne : w.heap.size ≠ w.heap.size + 1 := by omega
    clear hblk hblk2 hb_w2 hld hm
    go_wp2
    go_region
    all_goals
      go_wp2
      refine bodyPost_ret (res_ctt rfl Pf.laid rfl (Blk.drew (((((H3.out.far hne 1 (.int .i64 0)).far hne 2 (.int .i64 (tries + 1))).set 0 (.bool false)).set 1 (.int .i64 (0))).set 2 (.int .i64 (tries + 1)))) (by simp)) rfl ⟨?_, ?_⟩
      · simp [Pf.unit, Pf.anew, Pf.over, Pf.seen, Pf.most, (show 4 ≤ n + 1 by omega)]
      · repeat (first | exact HB | apply bl_drew | (refine bl_set ?_ (by omega) _))
theorem ProofUnit_ff (n tries : Int) (w : World) (h0 : 0 ≤ n) (h1 : n ≤ 10) (h2 : 0 ≤ tries) (h3 : tries ≤ 10) : Calls Tryz.prog 143 #[(Pf.mk false n tries).v, .bool false] w fun e w' => e = .returned (.tuple #[((Pf.mk false n tries).unit false).v, .bool ((Pf.mk false n tries).anew false), .bool ((Pf.mk false n tries).over false)]) ∧ Below w.heap.size w w' := by
  have HB := bl_refl w
  by_cases c : n < 4
  · have hld := Lib.hid (Most_c ⟨false, n, tries⟩)
    have hm : (Pf.mk false (n) tries).most = 4 := rfl
    rw [hm] at hld
    go_enter Tryz.func143, Tryz.ntmps143
    go_wp2
    have hblk := Blk.alloc (Blk.new w #[.bool false, .int .i64 (n), .int .i64 tries] 160) (.cells #[.bool false, .int .i64 0, .int .i64 0] 160)
    have hblk2 : Blk ((w.alloc (.cells #[.bool false, .int .i64 (n), .int .i64 tries] 160)).alloc (.cells #[.bool false, .int .i64 0, .int .i64 0] 160)) (w.heap.size + 1) #[.bool false, .int .i64 0, .int .i64 0] 160 := by simpa using Blk.new (w.alloc (.cells #[.bool false, .int .i64 (n), .int .i64 tries] 160)) #[.bool false, .int .i64 0, .int .i64 0] 160
    replace HB := bl_alloc (bl_alloc HB (.cells #[.bool false, .int .i64 (n), .int .i64 tries] 160)) (.cells #[.bool false, .int .i64 0, .int .i64 0] 160)
    refine wp_region_up (by kernel_rfl) (by kernel_rfl) ?_
    have up_hblk := fun (g : Up _) => (Blk.below hblk g.ok).c
    repeat (go_big_quiet_step (exact Up.calls _ (hld.out _)))
    refine wpQuiet_nil ?_
    clear up_hblk
    refine up_elim (fun w2 hb_w2 => ?_)
    replace HB := bl_then HB hb_w2
    have H2 := Lib.hid (Blk.below hblk hb_w2)
    have H3 := Lib.hid (Blk.below hblk2 hb_w2)
    have hc2 := H2.out.c
    have hf2 := H2.out.f
    have hc3 := H3.out.c
    have hf3 := H3.out.f
    have hne : w.heap.size ≠ w.heap.size + 1 := by omega
    clear hblk hblk2 hb_w2 hld hm
    go_wp2
    refine bodyPost_ret (res_ctt rfl Pf.laid rfl ((((H3.out.set 0 (.bool false)).set 1 (.int .i64 (n))).set 2 (.int .i64 (tries)))) (by simp)) rfl ⟨?_, ?_⟩
    · simp [Pf.unit, Pf.anew, Pf.over, Pf.seen, Pf.most, (show ¬ 4 ≤ n by omega)]
    · repeat (first | exact HB | apply bl_drew | (refine bl_set ?_ (by omega) _))
  · have hld := Lib.hid (Most_c ⟨false, n, tries⟩)
    have hm : (Pf.mk false (n) tries).most = 4 := rfl
    rw [hm] at hld
    go_enter Tryz.func143, Tryz.ntmps143
    go_wp2
    have hblk := Blk.alloc (Blk.new w #[.bool false, .int .i64 (n), .int .i64 tries] 160) (.cells #[.bool false, .int .i64 0, .int .i64 0] 160)
    have hblk2 : Blk ((w.alloc (.cells #[.bool false, .int .i64 (n), .int .i64 tries] 160)).alloc (.cells #[.bool false, .int .i64 0, .int .i64 0] 160)) (w.heap.size + 1) #[.bool false, .int .i64 0, .int .i64 0] 160 := by simpa using Blk.new (w.alloc (.cells #[.bool false, .int .i64 (n), .int .i64 tries] 160)) #[.bool false, .int .i64 0, .int .i64 0] 160
    replace HB := bl_alloc (bl_alloc HB (.cells #[.bool false, .int .i64 (n), .int .i64 tries] 160)) (.cells #[.bool false, .int .i64 0, .int .i64 0] 160)
    refine wp_region_up (by kernel_rfl) (by kernel_rfl) ?_
    have up_hblk := fun (g : Up _) => (Blk.below hblk g.ok).c
    repeat (go_big_quiet_step (exact Up.calls _ (hld.out _)))
    refine wpQuiet_nil ?_
    clear up_hblk
    refine up_elim (fun w2 hb_w2 => ?_)
    replace HB := bl_then HB hb_w2
    have H2 := Lib.hid (Blk.below hblk hb_w2)
    have H3 := Lib.hid (Blk.below hblk2 hb_w2)
    have hc2 := H2.out.c
    have hf2 := H2.out.f
    have hc3 := H3.out.c
    have hf3 := H3.out.f
    have hne : w.heap.size ≠ w.heap.size + 1 := by omega
    clear hblk hblk2 hb_w2 hld hm
    go_wp2
    go_region
    all_goals
      go_wp2
      refine bodyPost_ret (res_ctt rfl Pf.laid rfl (Blk.drew (((((H3.out.far hne 1 (.int .i64 0)).far hne 2 (.int .i64 (tries + 1))).set 0 (.bool false)).set 1 (.int .i64 (0))).set 2 (.int .i64 (tries + 1)))) (by simp)) rfl ⟨?_, ?_⟩
      · simp [Pf.unit, Pf.anew, Pf.over, Pf.seen, Pf.most, (show 4 ≤ n by omega)]
      · repeat (first | exact HB | apply bl_drew | (refine bl_set ?_ (by omega) _))
theorem ProofUnit_c (p : Pf) (wrong : Bool) (w : World) (hp : p.ok) : Calls Tryz.prog 143 #[p.v, .bool wrong] w fun e w' => e = .returned (.tuple #[(p.unit wrong).v, .bool (p.anew wrong), .bool (p.over wrong)]) ∧ Below w.heap.size w w' := by
  have HB := bl_refl w
  obtain ⟨hurry, n, tries⟩ := p
  obtain ⟨h0, h1, h2, h3⟩ := hp
  dsimp only at h0 h1 h2 h3
  cases hurry <;> cases wrong
  · exact ProofUnit_ff n tries w h0 h1 h2 h3
  · exact ProofUnit_ft n tries w h0 h1 h2 h3
  · exact ProofUnit_tf n tries w h0 h1 h2 h3
  · exact ProofUnit_tt n tries w h0 h1 h2 h3
end Go.Proofs.YtdffinnnjcgfcaaGreatK
