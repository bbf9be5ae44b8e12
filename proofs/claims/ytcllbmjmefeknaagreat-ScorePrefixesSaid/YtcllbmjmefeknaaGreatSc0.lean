/- A score that watches a pair of which nothing is told. A score's small walks; layer 24's example. The walk of score.Part. Layer 24's example; the walk of ScoreNil. Layer 24's example; the walk of ScoreNil. -/
import Derived.Test.YtcllbmjmefeknaaGreatPr7
import Derived.Test.YtcllbmjmefeknaaGreatPr8
import Derived.Lib.Bytes
namespace Go.Proofs.YtcllbmjmefeknaaGreatK
/-! ### A score that watches a pair of which nothing is told. A score's small walks; layer 24's example. -/
section
/-! ### A score that watches a pair of which nothing is told. -/
section
open Go Go.RowKit
set_option linter.unusedVariables false
set_option maxHeartbeats 40000000
set_option maxRecDepth 100000
abbrev scCells (m0 m1 : Int) : Array Value := #[.slice none 0 0, .slice none 0 0, .slice none 0 0, .slice none 0 0, .int .i64 0, .int .i64 0, .int .i64 0, .int .i64 0, .slice none 0 0, .slice none 0 0, .int .i64 m0, .int .i64 m1, .int .i64 0, .int .i64 0, .int .u8 0, .int .u8 0]
/-- The score lies in one block; it has kept nothing but how many waited. -/
def ScAt (g : Nat) (_n : Nat) (w : World) (s : Int × Int) (A : List Nat) : Prop := A = [g] ∧ Blk w g (scCells s.1 s.2) 157 ∧ 0 ≤ s.1 ∧ 0 ≤ s.2
def scSee (i : Nat) (q : Po) (s : Int × Int) : Int × Int := if i = 0 then (max s.1 q.x.h.sent.length, s.2) else (s.1, max s.2 q.x.h.sent.length)
theorem max_run (a b : Int) : (if a < b then b else a) = max a b := by omega
theorem ScTick_c {w : World} {g b : Nat} {m0 m1 : Int} {q : Po} {L : PoL} (K : Blk w g (scCells m0 m1) 157) (P : PoAt w b q L) (i : Nat) (hi : i ≤ 1) {a : Option Addr} {c : Nat} :
    Calls Tryz.prog 28 #[.pointer (some ⟨g, 0, none⟩), .int .i64 (i : Int), .pointer (some ⟨b, 0, none⟩), .slice a 0 c] w fun e w' => e = .returned (.tuple #[]) ∧ Blk w' g (scCells (scSee i q (m0, m1)).1 (scSee i q (m0, m1)).2) 157 ∧ Chg [g] w w' := by
  have HP := Lib.hid P
  have sc := P.lk.st.c 17
  have hmB := mB_Hold
  have hmC := mC_Hold
  obtain ⟨y9, hy9⟩ : ∃ y9, q.x.w = y9 := ⟨_, rfl⟩
  rw [show (q.x.cells L.L)[17]? = some (q.x.w.v L.L.bw) from rfl, hy9] at sc
  obtain ⟨sl, hsl⟩ : ∃ sl, q.x.h.sent.length = sl := ⟨_, rfl⟩
  have CU1 := Lib.hid (fun g9 : Up w => Up.calls_same g9 (PState_c (HP.out.below g9.ok)))
  have PW := Lib.hid (fun g9 : Up w => (hy9 ▸ (HP.out.below g9.ok).lk.wy : WyAt g9.val L.L.bw L.L.bh y9))
  have CU3 := Lib.hid (fun g9 : Up w => Up.calls_same g9 (hsl ▸ HSent_c (HP.out.below g9.ok).lk.ho))
  have HK := Lib.hid K
  clear P hy9
  rcases (by omega : i = 0 ∨ i = 1) with rfl | rfl
  · show Calls Tryz.prog 28 #[.pointer (some ⟨g, 0, none⟩), .int .i64 0, .pointer (some ⟨b, 0, none⟩), .slice a 0 c] w fun (e : Ending) (w' : World) => e = .returned (.tuple #[]) ∧ Blk w' g (scCells (max m0 (q.x.h.sent.length : Int)) m1) 157 ∧ Chg [g] w w'
    rw [hsl]
    cases y9 with
    | bs r =>
      simp only [Wy.v] at sc
      have CU2 := Lib.hid (fun g9 : Up w => Up.calls_same g9 (BHold_c (PW.out g9)))
      have up_s := fun g9 : Up w => below_cell g9.ok sc
      go_enter Tryz.func28, Tryz.ntmps28
      go_upto_region 1 with fail
      refine wp_region_up_tail 18 (by kernel_rfl) (by kernel_rfl) ?_
      simp only [List.take_succ_cons, List.take_zero, List.drop_succ_cons, List.drop_zero]
      have up_K := fun (g : Up _) => (Blk.below K g.ok).c
      repeat (go_big_quiet_step ((first | (with_reducible exact CU1.out _) | (with_reducible exact CU2.out _) | (with_reducible exact CU3.out _))))
      refine wpQuiet_nil ?_
      clear up_K
      refine up_elim (fun w5 hb_w5 => ?_)
      have K5 := HK.out.below hb_w5
      have HK5 := Lib.hid K5
      have HB5 := Lib.hid hb_w5
      have k5c := K5.c
      have k5f := K5.f
      clear up_s K K5 sc hb_w5
      rw [max_run]
      go_wp2
      go_loopw [41] (fun i wr => i = .int .i64 0 ∧ wr = w5.setCell ⟨g, 10, none⟩ (.int .i64 (max m0 (sl : Int)))) (fun _ _ => 0)
      case atStart => exact ⟨rfl, rfl⟩
      case round =>
        obtain ⟨rfl, rfl⟩ := hrel
        clear k5c k5f
        go_wp2
        go_end0
        exact ⟨rfl, (HK5.out.set 10 _).as rfl, (Chg.of_below HB5.out [g]).then ((Chg.refl [g] w5).set (b := g) (i := 10) (.inl (by simp)) _)⟩
    | cy r =>
      simp only [Wy.v] at sc
      have CU2 := Lib.hid (fun g9 : Up w => Up.calls_same g9 (CHold_c (PW.out g9)))
      have up_s := fun g9 : Up w => below_cell g9.ok sc
      go_enter Tryz.func28, Tryz.ntmps28
      go_upto_region 1 with fail
      refine wp_region_up_tail 18 (by kernel_rfl) (by kernel_rfl) ?_
      simp only [List.take_succ_cons, List.take_zero, List.drop_succ_cons, List.drop_zero]
      have up_K := fun (g : Up _) => (Blk.below K g.ok).c
      repeat (go_big_quiet_step ((first | (with_reducible exact CU1.out _) | (with_reducible exact CU2.out _) | (with_reducible exact CU3.out _))))
      refine wpQuiet_nil ?_
      clear up_K
      refine up_elim (fun w5 hb_w5 => ?_)
      have K5 := HK.out.below hb_w5
      have HK5 := Lib.hid K5
      have HB5 := Lib.hid hb_w5
      have k5c := K5.c
      have k5f := K5.f
      clear up_s K K5 sc hb_w5
      rw [max_run]
      go_wp2
      go_loopw [41] (fun i wr => i = .int .i64 0 ∧ wr = w5.setCell ⟨g, 10, none⟩ (.int .i64 (max m0 (sl : Int)))) (fun _ _ => 0)
      case atStart => exact ⟨rfl, rfl⟩
      case round =>
        obtain ⟨rfl, rfl⟩ := hrel
        clear k5c k5f
        go_wp2
        go_end0
        exact ⟨rfl, (HK5.out.set 10 _).as rfl, (Chg.of_below HB5.out [g]).then ((Chg.refl [g] w5).set (b := g) (i := 10) (.inl (by simp)) _)⟩
  · show Calls Tryz.prog 28 #[.pointer (some ⟨g, 0, none⟩), .int .i64 1, .pointer (some ⟨b, 0, none⟩), .slice a 0 c] w fun (e : Ending) (w' : World) => e = .returned (.tuple #[]) ∧ Blk w' g (scCells m0 (max m1 (q.x.h.sent.length : Int))) 157 ∧ Chg [g] w w'
    rw [hsl]
    cases y9 with
    | bs r =>
      simp only [Wy.v] at sc
      have CU2 := Lib.hid (fun g9 : Up w => Up.calls_same g9 (BHold_c (PW.out g9)))
      have up_s := fun g9 : Up w => below_cell g9.ok sc
      go_enter Tryz.func28, Tryz.ntmps28
      go_upto_region 1 with fail
      refine wp_region_up_tail 18 (by kernel_rfl) (by kernel_rfl) ?_
      simp only [List.take_succ_cons, List.take_zero, List.drop_succ_cons, List.drop_zero]
      have up_K := fun (g : Up _) => (Blk.below K g.ok).c
      repeat (go_big_quiet_step ((first | (with_reducible exact CU1.out _) | (with_reducible exact CU2.out _) | (with_reducible exact CU3.out _))))
      refine wpQuiet_nil ?_
      clear up_K
      refine up_elim (fun w5 hb_w5 => ?_)
      have K5 := HK.out.below hb_w5
      have HK5 := Lib.hid K5
      have HB5 := Lib.hid hb_w5
      have k5c := K5.c
      have k5f := K5.f
      clear up_s K K5 sc hb_w5
      rw [max_run]
      go_wp2
      go_loopw [41] (fun i wr => i = .int .i64 0 ∧ wr = w5.setCell ⟨g, 11, none⟩ (.int .i64 (max m1 (sl : Int)))) (fun _ _ => 0)
      case atStart => exact ⟨rfl, rfl⟩
      case round =>
        obtain ⟨rfl, rfl⟩ := hrel
        clear k5c k5f
        go_wp2
        go_end0
        exact ⟨rfl, (HK5.out.set 11 _).as rfl, (Chg.of_below HB5.out [g]).then ((Chg.refl [g] w5).set (b := g) (i := 11) (.inl (by simp)) _)⟩
    | cy r =>
      simp only [Wy.v] at sc
      have CU2 := Lib.hid (fun g9 : Up w => Up.calls_same g9 (CHold_c (PW.out g9)))
      have up_s := fun g9 : Up w => below_cell g9.ok sc
      go_enter Tryz.func28, Tryz.ntmps28
      go_upto_region 1 with fail
      refine wp_region_up_tail 18 (by kernel_rfl) (by kernel_rfl) ?_
      simp only [List.take_succ_cons, List.take_zero, List.drop_succ_cons, List.drop_zero]
      have up_K := fun (g : Up _) => (Blk.below K g.ok).c
      repeat (go_big_quiet_step ((first | (with_reducible exact CU1.out _) | (with_reducible exact CU2.out _) | (with_reducible exact CU3.out _))))
      refine wpQuiet_nil ?_
      clear up_K
      refine up_elim (fun w5 hb_w5 => ?_)
      have K5 := HK.out.below hb_w5
      have HK5 := Lib.hid K5
      have HB5 := Lib.hid hb_w5
      have k5c := K5.c
      have k5f := K5.f
      clear up_s K K5 sc hb_w5
      rw [max_run]
      go_wp2
      go_loopw [41] (fun i wr => i = .int .i64 0 ∧ wr = w5.setCell ⟨g, 11, none⟩ (.int .i64 (max m1 (sl : Int)))) (fun _ _ => 0)
      case atStart => exact ⟨rfl, rfl⟩
      case round =>
        obtain ⟨rfl, rfl⟩ := hrel
        clear k5c k5f
        go_wp2
        go_end0
        exact ⟨rfl, (HK5.out.set 11 _).as rfl, (Chg.of_below HB5.out [g]).then ((Chg.refl [g] w5).set (b := g) (i := 11) (.inl (by simp)) _)⟩
end
/-! ### A score's small walks; layer 24's example. -/
section
open Go Go.RowKit
set_option linter.unusedVariables false
set_option maxHeartbeats 40000000
set_option maxRecDepth 100000
theorem ScNew_c (w : World) : Calls Tryz.prog 30 #[] w fun e w' => ∃ g, e = .returned (.pointer (some ⟨g, 0, none⟩)) ∧ Blk w' g (scCells 0 0) 157 ∧ Below w.heap.size w w' ∧ w.heap.size ≤ g := by
  go_enter Tryz.func30, Tryz.ntmps30
  go_wp2
  go_ret
  exact ⟨_, rfl, Blk.new w _ _, bl_alloc (bl_refl w) _, Nat.le_refl _⟩
theorem ScOrder_c {w : World} {g : Nat} {m0 m1 : Int} (K : Blk w g (scCells m0 m1) 157) (i : Nat) (hi : i ≤ 1) (er : Int) {a : Option Addr} {n c : Nat} :
    Calls Tryz.prog 29 #[.pointer (some ⟨g, 0, none⟩), .int .i64 (i : Int), .agg #[.int .u8 1, .slice a n c], .int .i64 er] w fun e w' => e = .returned (.tuple #[]) ∧ Blk w' g (scCells m0 m1) 157 ∧ Chg [g] w w' := by
  have B1 := Lib.hid (bl_alloc (bl_refl w) (.cells #[.int .u8 1, .slice a n c] 27))
  have K1 := K.below B1.out
  have HK1 := Lib.hid K1
  by_cases he : er = 0
  · subst he
    have N1 := Blk.new w #[.int .u8 1, .slice a n c] 27
    have n1c := N1.c
    have k1c := K1.c
    have k1f := K1.f
    have hlt := K.lt
    have hgn : w.heap.size ≠ g := by omega
    have hgn' : g ≠ w.heap.size := fun e => hgn e.symm
    rcases (by omega : i = 0 ∨ i = 1) with rfl | rfl
    · show Calls Tryz.prog 29 #[.pointer (some ⟨g, 0, none⟩), .int .i64 0, .agg #[.int .u8 1, .slice a n c], .int .i64 0] w fun (e : Ending) (w' : World) => e = .returned (.tuple #[]) ∧ Blk w' g (scCells m0 m1) 157 ∧ Chg [g] w w'
      go_enter Tryz.func29, Tryz.ntmps29
      go_upto_region 4 with fail
      generalize w.alloc (.cells #[.int .u8 1, .slice a n c] 27) = w1 at B1 K1 HK1 N1 n1c k1c k1f ⊢
      refine wp_region_any (by kernel_rfl) ?_
      show wpAny _ _ _ _ 12 _ _ _
      refine wpAny_take (i := 2) (v := .pointer (some ⟨g, 0, none⟩)) rfl (by kernel_rfl) (by kernel_rfl) (by kernel_rfl) (fun _ _ _ h => h) (Or.inl ⟨by rfl, fun w => by go_simp⟩) ?_
      refine wpAny_take (i := 3) (v := .int .i64 0) rfl (by kernel_rfl) (by kernel_rfl) (by kernel_rfl) (fun _ _ _ h => h) (Or.inl ⟨by rfl, fun w => by go_simp⟩) ?_
      refine wpAny_take (i := 8) (v := .pointer (some ⟨g, 0, none⟩)) rfl (by kernel_rfl) (by kernel_rfl) (by kernel_rfl) (fun _ _ _ h => h) (Or.inl ⟨by rfl, fun w => by go_simp⟩) ?_
      refine wpAny_take (i := 9) (v := .pointer (some ⟨g, 2, none⟩)) rfl (by kernel_rfl) (by kernel_rfl) (by kernel_rfl) (fun _ _ _ h => h) (Or.inl ⟨by rfl, fun w => by go_simp⟩) ?_
      refine wpAny_pickL (C := fun w' => ∃ g9 : Up w1, w' = g9.1) 7 [0, 1, 4, 5, 6] [7, 10, 11] (fun l => (((l.take 7).eraseIdx 3).eraseIdx 2)) (fun l => (((l.drop 7).eraseIdx 2).eraseIdx 1)) (by kernel_rfl) (by kernel_rfl) (by kernel_rfl) ⟨⟨_, (Below.refl _ w1).drew⟩, rfl⟩ ?_
      simp only [List.take_succ_cons, List.take_zero, List.drop_succ_cons, List.drop_zero, List.eraseIdx_cons_succ, List.eraseIdx_cons_zero, Act.put, List.getElem_toArray, List.getElem_cons_succ, List.getElem_cons_zero, List.setIfInBounds_toArray, List.set_cons_succ, List.set_cons_zero]
      repeat (go_big_quiet_step (fail))
      refine wpQuiet_nil ?_
      refine up_elim (fun w6 hb6 => ?_)
      have K6 := HK1.out.below hb6
      have k6c := K6.c
      have k6f := K6.f
      have HK6 := Lib.hid K6
      have HB6 := Lib.hid hb6
      clear K6 k1c k1f n1c N1 K1
      go_wp2
      go_end0
      exact ⟨rfl, ((HK6.out.set 0 _).set 2 _).as rfl, (Chg.of_below (bl_then B1.out HB6.out) [g]).then (((Chg.refl [g] w6).set (b := g) (i := 0) (.inl (by simp)) _).set (b := g) (i := 2) (.inl (by simp)) _)⟩
    · show Calls Tryz.prog 29 #[.pointer (some ⟨g, 0, none⟩), .int .i64 1, .agg #[.int .u8 1, .slice a n c], .int .i64 0] w fun (e : Ending) (w' : World) => e = .returned (.tuple #[]) ∧ Blk w' g (scCells m0 m1) 157 ∧ Chg [g] w w'
      go_enter Tryz.func29, Tryz.ntmps29
      go_upto_region 4 with fail
      generalize w.alloc (.cells #[.int .u8 1, .slice a n c] 27) = w1 at B1 K1 HK1 N1 n1c k1c k1f ⊢
      refine wp_region_any (by kernel_rfl) ?_
      show wpAny _ _ _ _ 12 _ _ _
      refine wpAny_take (i := 2) (v := .pointer (some ⟨g, 0, none⟩)) rfl (by kernel_rfl) (by kernel_rfl) (by kernel_rfl) (fun _ _ _ h => h) (Or.inl ⟨by rfl, fun w => by go_simp⟩) ?_
      refine wpAny_take (i := 3) (v := .int .i64 1) rfl (by kernel_rfl) (by kernel_rfl) (by kernel_rfl) (fun _ _ _ h => h) (Or.inl ⟨by rfl, fun w => by go_simp⟩) ?_
      refine wpAny_take (i := 8) (v := .pointer (some ⟨g, 0, none⟩)) rfl (by kernel_rfl) (by kernel_rfl) (by kernel_rfl) (fun _ _ _ h => h) (Or.inl ⟨by rfl, fun w => by go_simp⟩) ?_
      refine wpAny_take (i := 9) (v := .pointer (some ⟨g, 2, none⟩)) rfl (by kernel_rfl) (by kernel_rfl) (by kernel_rfl) (fun _ _ _ h => h) (Or.inl ⟨by rfl, fun w => by go_simp⟩) ?_
      refine wpAny_pickL (C := fun w' => ∃ g9 : Up w1, w' = g9.1) 7 [0, 1, 4, 5, 6] [7, 10, 11] (fun l => (((l.take 7).eraseIdx 3).eraseIdx 2)) (fun l => (((l.drop 7).eraseIdx 2).eraseIdx 1)) (by kernel_rfl) (by kernel_rfl) (by kernel_rfl) ⟨⟨_, (Below.refl _ w1).drew⟩, rfl⟩ ?_
      simp only [List.take_succ_cons, List.take_zero, List.drop_succ_cons, List.drop_zero, List.eraseIdx_cons_succ, List.eraseIdx_cons_zero, Act.put, List.getElem_toArray, List.getElem_cons_succ, List.getElem_cons_zero, List.setIfInBounds_toArray, List.set_cons_succ, List.set_cons_zero]
      repeat (go_big_quiet_step (fail))
      refine wpQuiet_nil ?_
      refine up_elim (fun w6 hb6 => ?_)
      have K6 := HK1.out.below hb6
      have k6c := K6.c
      have k6f := K6.f
      have HK6 := Lib.hid K6
      have HB6 := Lib.hid hb6
      clear K6 k1c k1f n1c N1 K1
      go_wp2
      go_end0
      exact ⟨rfl, ((HK6.out.set 1 _).set 3 _).as rfl, (Chg.of_below (bl_then B1.out HB6.out) [g]).then (((Chg.refl [g] w6).set (b := g) (i := 1) (.inl (by simp)) _).set (b := g) (i := 3) (.inl (by simp)) _)⟩
  · have he' : (er == 0) = false := beq_eq_false_iff_ne.2 he
    rcases (by omega : i = 0 ∨ i = 1) with rfl | rfl
    · show Calls Tryz.prog 29 #[.pointer (some ⟨g, 0, none⟩), .int .i64 0, .agg #[.int .u8 1, .slice a n c], .int .i64 er] w fun (e : Ending) (w' : World) => e = .returned (.tuple #[]) ∧ Blk w' g (scCells m0 m1) 157 ∧ Chg [g] w w'
      go_enter Tryz.func29, Tryz.ntmps29
      go_wp2
      refine bodyPost_ret (results_none rfl _ _ _) rfl ?_
      exact ⟨rfl, HK1.out, Chg.of_below B1.out _⟩
    · show Calls Tryz.prog 29 #[.pointer (some ⟨g, 0, none⟩), .int .i64 1, .agg #[.int .u8 1, .slice a n c], .int .i64 er] w fun (e : Ending) (w' : World) => e = .returned (.tuple #[]) ∧ Blk w' g (scCells m0 m1) 157 ∧ Chg [g] w w'
      go_enter Tryz.func29, Tryz.ntmps29
      go_wp2
      refine bodyPost_ret (results_none rfl _ _ _) rfl ?_
      exact ⟨rfl, HK1.out, Chg.of_below B1.out _⟩
theorem one_ws {T T' g g' j : Nat} (h : ([(T, g)] : List (TypeId × Nat))[j]? = some (T', g')) : j = 0 ∧ T' = T ∧ g' = g := by
  cases j with
  | zero => simp at h; exact ⟨rfl, h.1.symm, h.2.symm⟩
  | succ j => simp at h
theorem sc_nilT (g : Nat) (w : World) : (nilAhead 408 66 (.pointer (some ⟨g, 0, none⟩)) "Tick").run Tryz.prog w = .ok (some false) w := by kernel_rfl
theorem sc_metT (g : Nat) (w : World) : (method 408 66 (.pointer (some ⟨g, 0, none⟩)) "Tick").run Tryz.prog w = .ok (28, .pointer (some ⟨g, 0, none⟩)) w := by kernel_rfl
theorem sc_nilO (g : Nat) (w : World) : (nilAhead 408 66 (.pointer (some ⟨g, 0, none⟩)) "Order").run Tryz.prog w = .ok (some false) w := by kernel_rfl
theorem sc_metO (g : Nat) (w : World) : (method 408 66 (.pointer (some ⟨g, 0, none⟩)) "Order").run Tryz.prog w = .ok (29, .pointer (some ⟨g, 0, none⟩)) w := by kernel_rfl
theorem sc_entT (args : Array Value) (w : World) : (callFunc 28 args).run Tryz.prog w = .ok (.enter 28 args) w := by kernel_rfl
theorem sc_entO (args : Array Value) (w : World) : (callFunc 29 args).run Tryz.prog w = .ok (.enter 29 args) w := by kernel_rfl
/-- The score as what watches. -/
def scWr (g : Nat) : Wr (Int × Int) where
  ws := [(66, g)]
  fT := fun _ => 28
  At := ScAt g
  tk := fun _ i q _ s => scSee i q s
  pre := fun _ told => told = []
  lt := fun h k hk => by
    obtain ⟨rfl, h1, _⟩ := h
    obtain rfl : k = g := by simpa using hk
    exact h1.lt
  off := fun h => by
    obtain ⟨rfl, h1, _⟩ := h
    exact (Typed.one h1).off (by decide)
  le := fun h _ => h
  far := fun h G _ hn => by
    obtain ⟨rfl, h1, h2⟩ := h
    exact ⟨rfl, h1.chg G (hn g (by simp)), h2⟩
  len := by simp
  nilT := fun h w => by
    obtain ⟨-, rfl, rfl⟩ := one_ws h
    exact sc_nilT _ w
  metT := fun h w => by
    obtain ⟨-, rfl, rfl⟩ := one_ws h
    exact sc_metT _ w
  entT := fun _ => sc_entT
  tick := @fun j T9 g9 h n w s A b q L v told m i hA hn P hk hm D T V hl hi hp => by
    obtain ⟨-, -, rfl⟩ := one_ws h
    obtain ⟨rfl, K, h1, h2⟩ := hA
    subst hp
    obtain ⟨av, cv, rfl, _⟩ := T.shape
    refine (ScTick_c K P i hi).mono fun e w' ⟨he, K', G⟩ => ⟨he, _, ⟨rfl, K', ?_, ?_⟩, G, fun k hk => .inl hk⟩
    · unfold scSee; split <;> dsimp only <;> omega
    · unfold scSee; split <;> dsimp only <;> omega
def scWo (g : Nat) : Wo (scWr g) where
  fO := fun _ => 29
  od := fun _ _ _ _ _ s => s
  pre := fun k => k = 1
  nilO := fun h w => by
    obtain ⟨-, rfl, rfl⟩ := one_ws h
    exact sc_nilO _ w
  metO := fun h w => by
    obtain ⟨-, rfl, rfl⟩ := one_ws h
    exact sc_metO _ w
  entO := fun _ => sc_entO
  order := @fun j T9 g9 h n w s A vp o i k er hA hn BI hl hi hk hp => by
    obtain ⟨-, -, rfl⟩ := one_ws h
    obtain ⟨rfl, K, h1⟩ := hA
    subst hp
    obtain ⟨av, cv, rfl, _⟩ := BI.shape
    exact (ScOrder_c K i hi er).mono fun e w' ⟨he, K', G⟩ => ⟨he, _, ⟨rfl, K', h1⟩, G, fun k hk => .inl hk⟩
end
end
/-! ### The walk of score.Part. -/
section
open Go Go.RowKit
set_option linter.unusedVariables false
set_option maxHeartbeats 40000000
set_option maxRecDepth 100000
/-! ### Lists of messages that are only read -/
theorem MsgV.opn {w : World} {v : Value} {xs : List Oct} (h : MsgV w v xs) : ∃ a cap, v = .slice a xs.length cap ∧ xs.length ≤ cap ∧ (xs.length = 0 ∨ ∃ bl off, a = some ⟨bl, off, none⟩ ∧ ∀ (j : Nat) (x : Oct), xs[j]? = some x → ∃ u, w.cell? ⟨bl, off + j, none⟩ = some u ∧ BytV w u x) := by
  obtain ⟨vs, R, M⟩ := h.reads
  obtain ⟨a, cap, e, hc⟩ := R.shape
  refine ⟨a, cap, e, hc, ?_⟩
  rcases R.2 with ⟨_, h0⟩ | ⟨bl, off, cap', cs, e', h1, h2, h3, h4, h5⟩
  · exact .inl h0
  · rw [e] at e'
    simp only [Value.slice.injEq, true_and] at e'
    refine .inr ⟨bl, off, e'.1, fun j x hx => ?_⟩
    obtain ⟨u, g1, g2⟩ := M.2 j x hx
    exact ⟨u, by rw [h3.c]; exact h5 j u g1, g2⟩
theorem MsgV.tail1 {w : World} {bl off n cap : Nat} {x : Oct} {xs : List Oct} (h : MsgV w (.slice (some ⟨bl, off, none⟩) (n + 1) cap) (x :: xs)) (hn : xs.length = n) (hc : cap ≠ 1) : MsgV w (.slice (some ⟨bl, off + 1, none⟩) n (cap - 1)) xs := by
  obtain ⟨vs, R, M⟩ := h.reads
  refine ⟨vs.drop 1, ⟨by have := R.1; simp at this ⊢; omega, ?_⟩, fun j y hx => ?_⟩
  · rcases R.2 with ⟨e, h0⟩ | ⟨b, o, cap', cs, e, h1, h2, h3, h4, h5⟩
    · cases e
    · simp only [Value.slice.injEq, Option.some.injEq, Addr.mk.injEq, and_true] at e
      obtain ⟨⟨rfl, rfl⟩, _, rfl⟩ := e
      refine .inr ⟨bl, off + 1, cap - 1, cs, by rw [hn], by simp at h1; omega, by omega, h3, by omega, fun j u hu => ?_⟩
      rw [List.getElem?_drop] at hu
      rw [show off + 1 + j = off + (1 + j) by omega]
      exact h5 _ u hu
  · rw [List.getElem?_drop]
    exact M.2 (1 + j) y (by rw [Nat.add_comm]; simpa using hx)
theorem MsgV.shut {w : World} {bl off n cap : Nat} {xs : List Oct} (h : MsgV w (.slice (some ⟨bl, off, none⟩) n cap) xs) : MsgV w (.slice (some ⟨bl, off, none⟩) 0 0) [] := by
  obtain ⟨vs, R, M⟩ := h.reads
  rcases R.2 with ⟨e, h0⟩ | ⟨b, o, cap', cs, e, h1, h2, h3, h4, h5⟩
  · cases e
  · simp only [Value.slice.injEq, Option.some.injEq, Addr.mk.injEq, and_true] at e
    obtain ⟨⟨rfl, rfl⟩, _, rfl⟩ := e
    exact ⟨[], ⟨rfl, .inr ⟨bl, off, 0, cs, rfl, by simp, by simp, h3, by omega, fun j u hu => by simp at hu⟩⟩, fun j x hx => by simp at hx⟩
theorem strNums_inj {p q : Oct} (hp : isOct p) (hq : isOct q) (h : (strOfNums p).toList = (strOfNums q).toList) : p = q := by
  rw [Lib.strOfNums_toList, Lib.strOfNums_toList] at h
  unfold Lib.bytesOf at h
  have hl : p.length = q.length := by have := congrArg List.length h; simpa using this
  refine List.ext_getElem hl fun j h2 h3 => ?_
  have h4 : (p.map fun n => UInt8.ofNat n.toNat)[j]? = (q.map fun n => UInt8.ofNat n.toNat)[j]? := by rw [h]
  rw [List.getElem?_map, List.getElem?_map, List.getElem?_eq_getElem h2, List.getElem?_eq_getElem h3] at h4
  have h5 := congrArg UInt8.toNat (Option.some.inj h4)
  have b1 := hp _ (List.getElem_mem h2)
  have b2 := hq _ (List.getElem_mem h3)
  simp only [UInt8.toNat_ofNat'] at h5
  omega
/-- A step of the greedy look. -/
def stpO (a : List Oct) (y : Oct) : List Oct :=
  match a with
  | [] => []
  | x :: r => if x = y then r else x :: r
theorem BytV.oct {w : World} {v : Value} {p : Oct} (h : BytV w v p) : isOct p := h.2
theorem Part_c {w : World} {v1 v2 : Value} {a b : List Oct} (h1 : MsgV w v1 a) (h2 : MsgV w v2 b) (hl : b.length ≤ 100000) :
    Calls Tryz.prog 36 #[v1, v2] w fun e w' => e = .returned (.bool (decide (b.foldl stpO a = []))) ∧ Below w.heap.size w w' := by
  have H1 := Lib.hid h1
  obtain ⟨a2, c2, rfl, _, o2⟩ := h2.opn
  obtain ⟨a1, c1, rfl, _⟩ := h1.shape
  have O2 := Lib.hid o2
  obtain ⟨ln, hln⟩ : ∃ ln, b.length = ln := ⟨_, rfl⟩
  rw [hln] at hl ⊢
  have HLN := Lib.hid hln
  clear h1 h2 o2 hln
  go_enter Tryz.func36, Tryz.ntmps36
  go_wp2
  go_loopw [0, 9] (fun v i wr => ∃ k : Nat, k ≤ ln ∧ i = .int .i64 k ∧ Below w.heap.size w wr ∧ MsgV wr v ((b.take k).foldl stpO a)) (fun _ i _ => ln - (intOf i).toNat)
  case atStart => exact ⟨0, by omega, rfl, bl_refl w, H1.out⟩
  case round =>
    obtain ⟨k, hk, rfl, B, M⟩ := hrel
    have HB := Lib.hid B
    clear B
    by_cases hlt : k < ln
    · have hlt' : (k : Int) < ln := by omega
      have hlx : k < b.length := by rw [HLN.out]; exact hlt
      obtain ⟨y, hx⟩ : ∃ y, b[k]? = some y := ⟨_, List.getElem?_eq_getElem hlx⟩
      have HT := Lib.hid (show (b.take (k + 1)).foldl stpO a = stpO ((b.take k).foldl stpO a) y from by rw [List.take_add_one, hx, List.foldl_append]; rfl)
      rcases O2.out with z2 | ⟨b2, f2, rfl, m2⟩
      · exact absurd z2 (by have := HLN.out; omega)
      obtain ⟨u2, g2, y2⟩ := m2 k _ hx
      have Y2 := Lib.hid (Byt.below y2 HB.out)
      have g2w := below_cell HB.out g2
      obtain ⟨q2, d2, rfl, _⟩ := Y2.out.1.shape
      generalize (b.take k).foldl stpO a = r at M HT
      have HM := Lib.hid M
      obtain ⟨ar, cr, rfl, _, o1⟩ := M.opn
      have O1 := Lib.hid o1
      clear m2 y2 g2 hx M o1
      cases r with
      | nil =>
        rw [List.length_nil]
        go_upto_region 4 with fail
        refine wp_region_up (by kernel_rfl) (by kernel_rfl) ?_
        repeat (go_big_quiet_step (fail))
        refine wpQuiet_nil ?_
        refine up_elim (fun w6 hb6 => ?_)
        go_wp2
        go_roundw
        case rel => exact ⟨k + 1, by omega, by go_num, bl_then HB.out hb6, by rw [HT.out]; exact HM.out.below hb6⟩
        case measure => simp [intOf]; omega
      | cons x r =>
        obtain ⟨n, hn⟩ : ∃ n, r.length = n := ⟨_, rfl⟩
        have HN := Lib.hid hn
        rcases O1.out with z1 | ⟨b1, f1, rfl, m1⟩
        · exact absurd z1 (by simp)
        obtain ⟨u1, g1, y1⟩ := m1 0 x rfl
        rw [Nat.add_zero] at g1
        have Y1 := Lib.hid y1
        obtain ⟨q1, d1, rfl, _⟩ := Y1.out.1.shape
        rw [List.length_cons, hn] at HM ⊢
        have up_1 := fun g : Up wr => below_cell g.ok g1
        have up_c1 := fun g : Up wr => conv_back (Byt.below Y1.out g.ok)
        have up_c2 := fun g : Up wr => conv_back (Byt.below Y2.out g.ok)
        obtain ⟨s1, hs1⟩ : ∃ str, strOfNums x = str := ⟨_, rfl⟩
        obtain ⟨s2, hs2⟩ : ∃ str, strOfNums y = str := ⟨_, rfl⟩
        rw [hs1] at up_c1
        rw [hs2] at up_c2
        have hnp : (0 : Int) < (n : Int) + 1 := by omega
        have hnp1 : (1 : Int) ≤ (n : Int) + 1 := by omega
        clear m1 y1 hn
        by_cases hxy : x = y
        · have e12 : s1 = s2 := by rw [← hs1, ← hs2, hxy]
          have HT2 := Lib.hid (show (b.take (k + 1)).foldl stpO a = r from by rw [HT.out]; unfold stpO; dsimp only; rw [if_pos hxy])
          subst e12
          clear hs1 hs2 hxy
          go_upto_region 4 with fail
          refine wp_region_up (by kernel_rfl) (by kernel_rfl) ?_
          repeat (go_big_quiet_step (fail))
          refine wpQuiet_nil ?_
          clear up_1 up_c1 up_c2
          refine up_elim (fun w6 hb6 => ?_)
          by_cases hc1 : cr = 1
          · subst hc1
            have n0 : n = 0 := by
              obtain ⟨a9, c9, e9, hc9⟩ := HM.out.shape
              simp only [Value.slice.injEq] at e9
              rw [List.length_cons, HN.out] at hc9
              omega
            subst n0
            have hr : r = [] := List.length_eq_zero_iff.1 HN.out
            subst hr
            go_wp2
            go_roundw
            case rel => exact ⟨k + 1, by omega, by go_num, bl_then HB.out hb6, by rw [HT2.out]; exact MsgV.shut (HM.out.below hb6)⟩
            case measure => simp [intOf]; omega
          · go_wp2
            go_roundw
            case rel => exact ⟨k + 1, by omega, by go_num, bl_then HB.out hb6, by rw [HT2.out]; exact MsgV.tail1 (HM.out.below hb6) HN.out hc1⟩
            case measure => simp [intOf]; omega
        · have hst : (s1.toList == s2.toList) = false := beq_eq_false_iff_ne.2 (fun e => hxy (strNums_inj Y1.out.2 Y2.out.2 (by rw [hs1, hs2, e])))
          have HT2 := Lib.hid (show (b.take (k + 1)).foldl stpO a = x :: r from by rw [HT.out]; unfold stpO; dsimp only; rw [if_neg hxy])
          clear hs1 hs2 hxy
          go_upto_region 4 with fail
          refine wp_region_up (by kernel_rfl) (by kernel_rfl) ?_
          repeat (go_big_quiet_step (fail))
          refine wpQuiet_nil ?_
          clear up_1 up_c1 up_c2
          refine up_elim (fun w6 hb6 => ?_)
          go_wp2
          go_roundw
          case rel => exact ⟨k + 1, by omega, by go_num, bl_then HB.out hb6, by rw [HT2.out]; exact HM.out.below hb6⟩
          case measure => simp [intOf]; omega
    · obtain rfl : k = ln := by omega
      have hnl : ¬ ((k : Int) < k) := by omega
      rw [List.take_of_length_le (by have := HLN.out; omega)] at M
      obtain ⟨r, hr⟩ : ∃ r, b.foldl stpO a = r := ⟨_, rfl⟩
      rw [hr] at M
      have HR := Lib.hid hr
      obtain ⟨ar, cr, rfl, _⟩ := M.shape
      clear M hr
      cases r with
      | nil =>
        go_wp2
        go_ret
        exact ⟨by rw [HR.out]; rfl, HB.out⟩
      | cons x r =>
        have hne : (((r.length : Nat) : Int) + 1 == 0) = false := beq_eq_false_iff_ne.2 (by omega)
        rw [List.length_cons]
        go_wp2
        go_ret
        exact ⟨by rw [HR.out, decide_eq_false (by simp)]; first | rfl | (rw [hne]), HB.out⟩
end
/-! ### Layer 24's example; the walk of ScoreNil. Layer 24's example; the walk of ScoreNil. -/
section
/-! ### Layer 24's example; the walk of ScoreNil. -/
section
open Go Go.RowKit
set_option linter.unusedVariables false
set_option maxHeartbeats 40000000
set_option maxRecDepth 100000
theorem quiet10 : ∀ k, k < 10 → ((Lp.run k (Lp.begin false)).p.tick (Lp.run k (Lp.begin false)).n).1.x.told = [] := by decide +kernel
theorem sym_pre (y : Lp) (t : Int) (h : (y.p.tick y.n).1.x.told = []) : (Pr.sym y t).wires.p0.x.told = [] ∧ (Pr.sym y t).wires.p1.x.told = [] := ⟨h, h⟩
theorem SBegin_c {w0 w : World} {b g : Nat} {s : Int × Int} (h : PrW (scWr g) w0 w b (Pr.new (usualP false) 0) s 0 []) (h0 : Below w0.heap.size w0 w) :
    Calls Tryz.prog 42 #[.pointer (some ⟨b, 0, none⟩), .int .i64 10] w fun e w' => e = .returned (.tuple #[]) ∧ (∃ x s, PrW (scWr g) w0 w' b x s 100000000000000 []) ∧ Below w0.heap.size w0 w' := by
  have hk := newPr_ok false (d := 0) (by omega)
  have HD0 := Lib.hid (h.tell0 (scWo g) h0.size (by simp) hk (by omega) (by omega) 1 (by omega) rfl)
  have H0 := Lib.hid h0
  have HK1 := Lib.hid (Pr.ok_ord0 hk 1 [])
  have HK2 := Lib.hid (Pr.ok_ord1 (Pr.ok_ord0 hk 1 []) 1 [])
  have HH := Lib.hid h
  rw [begin_sym] at HK2
  clear h hk h0
  go_enter Tryz.func42, Tryz.ntmps42
  go_wp2
  go_loopw [4] (fun i wr => (i = .int .i64 0 ∧ wr = w) ∨ (i = .int .i64 1 ∧ (∃ s, PrW (scWr g) w0 wr b ((Pr.new (usualP false) 0).ord0 1 []) s 200000000 []) ∧ Below w0.heap.size w0 wr) ∨ (i = .int .i64 2 ∧ (∃ s, PrW (scWr g) w0 wr b (Pr.sym (Lp.begin false) 0) s 400000000 []) ∧ Below w0.heap.size w0 wr)) (fun i _ => 2 - (intOf i).toNat)
  case atStart => exact .inl ⟨rfl, rfl⟩
  case round =>
    rcases hrel with ⟨rfl, rfl⟩ | ⟨rfl, ⟨s1, P⟩, B⟩ | ⟨rfl, ⟨s1, P⟩, B⟩
    · go_wp2_with (first
        | ((with_reducible refine HD0.out.mono ?_); rintro e w2 ⟨rfl, P2, F2⟩; have HF2 := Lib.hid (F2.bel H0.out); have HP2 := Lib.hid P2; clear P2 F2))
      go_roundw
      case rel => exact .inr (.inl ⟨by go_num, ⟨_, HP2.out.same (by omega)⟩, HF2.out⟩)
      case measure => simp [intOf]
    · have HD1 := Lib.hid (P.tell1 (scWo g) B.size (by simp) HK1.out (by omega) (by omega) 1 (by omega) rfl)
      have HB := Lib.hid B
      clear P B
      go_wp2_with (first
        | ((with_reducible refine HD1.out.mono ?_); rintro e w2 ⟨rfl, P2, F2⟩; have HF2 := Lib.hid (F2.bel HB.out); have HP2 := Lib.hid P2; clear P2 F2))
      go_roundw
      case rel => exact .inr (.inr ⟨by go_num, ⟨_, by rw [← begin_sym]; exact HP2.out.same (by omega)⟩, HF2.out⟩)
      case measure => simp [intOf]
    · have HP := Lib.hid P
      have HB := Lib.hid B
      clear P B
      go_wp2
      go_loopw [5] (fun i wr => ∃ k : Nat, k ≤ 10 ∧ i = .int .i64 k ∧ (Pr.run k (Pr.sym (Lp.begin false) 0)).ok (2 + 64 * k) ∧ (∃ s, PrW (scWr g) w0 wr b (Pr.run k (Pr.sym (Lp.begin false) 0)) s (1000000000 + k * 200000000) []) ∧ Below w0.heap.size w0 wr) (fun i _ => 10 - (intOf i).toNat)
      case atStart => exact ⟨0, by omega, rfl, HK2.out, ⟨_, HP.out.same (by omega)⟩, HB.out⟩
      case round =>
        obtain ⟨k, hkT, rfl, hk, ⟨s2, P⟩, B⟩ := hrel
        by_cases hlt : k < 10
        · have hlt' : (k : Int) < 10 := by omega
          have hpre : (Pr.run k (Pr.sym (Lp.begin false) 0)).wires.p0.x.told = [] ∧ (Pr.run k (Pr.sym (Lp.begin false) 0)).wires.p1.x.told = [] := by
            rw [sym_run]
            exact sym_pre _ _ (quiet10 k hlt)
          have HT := Lib.hid (P.tick B.size (by simp) hk (by omega) (by omega) hpre.1 hpre.2)
          have HB := Lib.hid B
          clear P B hk hpre
          go_wp2_with (first
            | ((with_reducible refine HT.out.mono ?_); rintro e w5 ⟨rfl, hk5, P5, F5⟩; have HK5 := Lib.hid hk5; have HP5 := Lib.hid P5; have HF5 := Lib.hid (F5.bel HB.out); clear hk5 P5 F5))
          go_roundw
          case rel => exact ⟨k + 1, by omega, by go_num, HK5.out.le (by omega), ⟨_, HP5.out.same (by omega)⟩, HF5.out⟩
          case measure => simp [intOf]; omega
        · obtain rfl : k = 10 := by omega
          have HP := Lib.hid P
          have HB := Lib.hid B
          clear hk P B
          go_wp2
          go_end0
          exact ⟨rfl, ⟨_, _, HP.out.same (by omega)⟩, HB.out⟩
theorem Tally.laid : Laid Tryz.prog 73 5 := ⟨⟨_, Tryz.underlying73, rfl⟩, by kernel_rfl⟩
theorem ScTally_c {w : World} {g : Nat} {m0 m1 : Int} (K : Blk w g (scCells m0 m1) 157) : Calls Tryz.prog 34 #[.pointer (some ⟨g, 0, none⟩), .int .i64 0] w fun e w' => e = .returned (.agg #[.int .i64 0, .int .i64 0, .int .i64 m0, .int .i64 0, .int .u8 0]) ∧ Below w.heap.size w w' := by
  have BA := Lib.hid (bl_alloc (bl_refl w) (.cells #[.int .i64 0, .int .i64 0, .int .i64 0, .int .i64 0, .int .u8 0] 73))
  have K1 := K.below BA.out
  have N1 := Blk.new w #[.int .i64 0, .int .i64 0, .int .i64 0, .int .i64 0, .int .u8 0] 73
  obtain ⟨n0, hn0⟩ : ∃ n0, w.heap.size = n0 := ⟨_, rfl⟩
  rw [hn0] at N1
  have HN0 := Lib.hid hn0
  have HN1 := Lib.hid N1
  go_enter Tryz.func34, Tryz.ntmps34
  go_upto_region 3 with fail
  generalize w.alloc (.cells #[.int .i64 0, .int .i64 0, .int .i64 0, .int .i64 0, .int .u8 0] 73) = w1 at BA K1 N1 HN1 ⊢
  refine wp_region_up_tail 31 (by kernel_rfl) (by kernel_rfl) ?_
  simp only [List.take_succ_cons, List.take_zero, List.drop_succ_cons, List.drop_zero]
  have up_K1 := fun (g : Up _) => (Blk.below K1 g.ok).c
  have up_N1 := fun (g : Up _) => (Blk.below N1 g.ok).c
  repeat (go_big_quiet_step (fail))
  refine wpQuiet_nil ?_
  clear up_K1 up_N1
  refine up_elim (fun w5 hb_w5 => ?_)
  have N5 := HN1.out.below hb_w5
  have n5f := N5.f
  have n5c := N5.c
  have HN5 := Lib.hid N5
  have HB5 := Lib.hid (bl_then BA.out hb_w5)
  clear N1 K1 N5
  go_wp2
  exact bodyPost_ret (res_c rfl Tally.laid rfl (((((HN5.out.set 0 (.int .i64 0)).set 1 (.int .i64 0)).set 2 (.int .i64 m0)).set 3 (.int .i64 0)).set 4 (.int .u8 0)) rfl) rfl ⟨rfl, HB5.out.trans (((((((Chg.refl [n0] w5).set (b := n0) (i := 0) (.inl (by simp)) _).set (b := n0) (i := 1) (.inl (by simp)) _).set (b := n0) (i := 2) (.inl (by simp)) _).set (b := n0) (i := 3) (.inl (by simp)) _).set (b := n0) (i := 4) (.inl (by simp)) _).to_below HB5.out.size (fun k hk => by have := HN0.out; simp at hk; omega))⟩
/-! ### Of no score, of no side -/
theorem off5 {w : World} {a b c d e : Value} : Blk ((((((w.alloc (.cells #[.int .i64 0, .int .i64 0, .int .i64 0, .int .i64 0, .int .u8 0] 73)).setCell ⟨w.heap.size, 0, none⟩ a).setCell ⟨w.heap.size, 1, none⟩ b).setCell ⟨w.heap.size, 2, none⟩ c).setCell ⟨w.heap.size, 3, none⟩ d).setCell ⟨w.heap.size, 4, none⟩ e) w.heap.size #[a, b, c, d, e] 73 := ((((((Blk.new w _ _).set 0 a).set 1 b).set 2 c).set 3 d).set 4 e).as rfl
theorem NScTick_c (n : Int) (w : World) : Calls Tryz.prog 28 #[.pointer none, .int .i64 n, .pointer none, .slice none 0 0] w fun e w' => e = .returned (.tuple #[]) ∧ w = w' := by
  go_enter Tryz.func28, Tryz.ntmps28
  go_wp2
  refine bodyPost_ret (results_none rfl _ _ _) rfl ?_
  exact ⟨rfl, rfl⟩
theorem OScTick_c (g : Nat) (w : World) : Calls Tryz.prog 28 #[.pointer (some ⟨g, 0, none⟩), .int .i64 2, .pointer none, .slice none 0 0] w fun e w' => e = .returned (.tuple #[]) ∧ w = w' := by
  go_enter Tryz.func28, Tryz.ntmps28
  go_wp2
  refine bodyPost_ret (results_none rfl _ _ _) rfl ?_
  exact ⟨rfl, rfl⟩
theorem NScIn_c (n : Int) (w : World) : Calls Tryz.prog 31 #[.pointer none, .int .i64 n] w fun e w' => e = .returned (.slice none 0 0) ∧ w = w' := by
  go_enter Tryz.func31, Tryz.ntmps31
  go_wp2
  go_ret
  exact ⟨rfl, rfl⟩
theorem NScOut_c (n : Int) (w : World) : Calls Tryz.prog 32 #[.pointer none, .int .i64 n] w fun e w' => e = .returned (.slice none 0 0) ∧ w = w' := by
  go_enter Tryz.func32, Tryz.ntmps32
  go_wp2
  go_ret
  exact ⟨rfl, rfl⟩
theorem NScTold_c (n : Int) (w : World) : Calls Tryz.prog 33 #[.pointer none, .int .i64 n] w fun e w' => e = .returned (.slice none 0 0) ∧ w = w' := by
  go_enter Tryz.func33, Tryz.ntmps33
  go_wp2
  go_ret
  exact ⟨rfl, rfl⟩
theorem OScIn_c (g : Nat) (w : World) : Calls Tryz.prog 31 #[.pointer (some ⟨g, 0, none⟩), .int .i64 2] w fun e w' => e = .returned (.slice none 0 0) ∧ w = w' := by
  go_enter Tryz.func31, Tryz.ntmps31
  go_wp2
  go_ret
  exact ⟨rfl, rfl⟩
theorem OScOut_c (g : Nat) (w : World) : Calls Tryz.prog 32 #[.pointer (some ⟨g, 0, none⟩), .int .i64 (-1)] w fun e w' => e = .returned (.slice none 0 0) ∧ w = w' := by
  go_enter Tryz.func32, Tryz.ntmps32
  go_wp2
  go_ret
  exact ⟨rfl, rfl⟩
theorem OScTold_c (g : Nat) (w : World) : Calls Tryz.prog 33 #[.pointer (some ⟨g, 0, none⟩), .int .i64 7] w fun e w' => e = .returned (.slice none 0 0) ∧ w = w' := by
  go_enter Tryz.func33, Tryz.ntmps33
  go_wp2
  go_ret
  exact ⟨rfl, rfl⟩
theorem NScOrder_c (sd : Int) (k : Int) (a : Option Addr) (n c : Nat) (w : World) : Calls Tryz.prog 29 #[.pointer none, .int .i64 sd, .agg #[.int .u8 k, .slice a n c], .int .i64 0] w fun e w' => e = .returned (.tuple #[]) ∧ Below w.heap.size w w' := by
  go_enter Tryz.func29, Tryz.ntmps29
  go_wp2
  refine bodyPost_ret (results_none rfl _ _ _) rfl ?_
  exact ⟨rfl, bl_alloc (bl_refl w) _⟩
theorem OScOrder_c (g : Nat) (k : Int) (a : Option Addr) (n c : Nat) (w : World) : Calls Tryz.prog 29 #[.pointer (some ⟨g, 0, none⟩), .int .i64 (-1), .agg #[.int .u8 k, .slice a n c], .int .i64 0] w fun e w' => e = .returned (.tuple #[]) ∧ Below w.heap.size w w' := by
  go_enter Tryz.func29, Tryz.ntmps29
  go_wp2
  refine bodyPost_ret (results_none rfl _ _ _) rfl ?_
  exact ⟨rfl, bl_alloc (bl_refl w) _⟩
theorem NScTally_c (sd : Int) (w : World) : Calls Tryz.prog 34 #[.pointer none, .int .i64 sd] w fun e w' => e = .returned (.agg #[.int .i64 0, .int .i64 0, .int .i64 0, .int .i64 0, .int .u8 0]) ∧ Below w.heap.size w w' := by
  go_enter Tryz.func34, Tryz.ntmps34
  go_wp2
  exact bodyPost_ret (res_c rfl Tally.laid rfl (((Blk.new w _ _)).as rfl) rfl) rfl ⟨rfl, bl_alloc (bl_refl w) _⟩
theorem OScTally_c (g : Nat) (w : World) : Calls Tryz.prog 34 #[.pointer (some ⟨g, 0, none⟩), .int .i64 2] w fun e w' => e = .returned (.agg #[.int .i64 0, .int .i64 0, .int .i64 0, .int .i64 0, .int .u8 0]) ∧ Below w.heap.size w w' := by
  go_enter Tryz.func34, Tryz.ntmps34
  go_wp2
  exact bodyPost_ret (res_c rfl Tally.laid rfl (((Blk.new w _ _)).as rfl) rfl) rfl ⟨rfl, bl_alloc (bl_refl w) _⟩
theorem tally_eql (w : World) : (binOp .eql 73 (.agg #[.int .i64 0, .int .i64 0, .int .i64 0, .int .i64 0, .int .u8 0]) (.agg #[.int .i64 0, .int .i64 0, .int .i64 0, .int .i64 0, .int .u8 0])).run Tryz.prog w = .ok (.bool true) w := by kernel_rfl
end
/-! ### Layer 24's example; the walk of ScoreNil. -/
section
open Go Go.RowKit
set_option linter.unusedVariables false
set_option maxHeartbeats 40000000
set_option maxRecDepth 100000
theorem SWatch_c {w0 w : World} {b g n : Nat} {x : Pr} (h : PrW Wr.none w0 w b x () n []) (K : Blk w g (scCells 0 0) 157) (hg : w0.heap.size ≤ g) (h0 : Below w0.heap.size w0 w) :
    Calls Tryz.prog 22 #[.pointer (some ⟨b, 0, none⟩), .iface 66 (.pointer (some ⟨g, 0, none⟩))] w fun e w' => e = .returned (.tuple #[]) ∧ PrW (scWr g) w0 w' b x (0, 0) 0 [] ∧ Below w0.heap.size w0 w' := by
  obtain ⟨L, A, P, rfl, _, hF⟩ := h.ex
  have P : PrAt w b x L [] := P
  refine (PrWatch_c P (by simp) 66 g).mono fun e w' ⟨he, v, P', G, O⟩ => ?_
  have hgP : g ∉ prF b L := (P.typed.off (by decide)).notin K
  have K' := K.chg G hgP
  refine ⟨he, ⟨_, [g], P', ⟨rfl, K', by decide, by decide⟩, fun k hk hk2 => ?_, fun k hk => ⟨?_, by simp⟩⟩, h0.trans (G.to_below h0.size (fun k hk => (hF k (List.mem_append_left _ hk)).1))⟩
  · obtain rfl : k = g := by simpa using hk2
    exact (P'.typed.off (by decide)).notin K' hk
  · rcases List.mem_append.1 hk with h9 | h9
    · rcases O k h9 with h8 | h8
      · exact (hF k (List.mem_append_left _ h8)).1
      · exact Nat.le_trans h0.size h8
    · obtain rfl : k = g := by simpa using h9
      exact hg
theorem BytV.lit1 {w : World} {bl : Nat} {x : Int} (B : Blk w bl #[.int .u8 x] 5) (h : 0 ≤ x ∧ x ≤ 255) : BytV w (.slice (some ⟨bl, 0, none⟩) 1 1) [x] := by
  refine ⟨⟨by simp, .inr ⟨bl, 0, 1, _, rfl, by simp, by simp [maxLen], B, by simp, fun j v hv => ?_⟩⟩, fun v hv => ?_⟩
  · simpa using hv
  · simp only [List.mem_cons, List.not_mem_nil, or_false] at hv
    subst hv
    exact h
theorem MsgV.lit2 {w : World} {bl : Nat} {u1 u2 : Value} {p1 p2 : Oct} (B : Blk w bl #[u1, u2] 25) (h1 : BytV w u1 p1) (h2 : BytV w u2 p2) : MsgV w (.slice (some ⟨bl, 0, none⟩) 2 2) [p1, p2] := by
  refine ⟨[u1, u2], ⟨by simp, .inr ⟨bl, 0, 2, _, rfl, by simp, by simp [maxLen], B, by simp, fun j v hv => ?_⟩⟩, fun j x hx => ?_⟩
  · simpa using hv
  · match j, hx with
    | 0, hx => simp at hx; subst hx; exact ⟨u1, rfl, h1⟩
    | 1, hx => simp at hx; subst hx; exact ⟨u2, rfl, h2⟩
    | j + 2, hx => simp at hx
theorem MsgV.lit3 {w : World} {bl : Nat} {u1 u2 u3 : Value} {p1 p2 p3 : Oct} (B : Blk w bl #[u1, u2, u3] 25) (h1 : BytV w u1 p1) (h2 : BytV w u2 p2) (h3 : BytV w u3 p3) : MsgV w (.slice (some ⟨bl, 0, none⟩) 3 3) [p1, p2, p3] := by
  refine ⟨[u1, u2, u3], ⟨by simp, .inr ⟨bl, 0, 3, _, rfl, by simp, by simp [maxLen], B, by simp, fun j v hv => ?_⟩⟩, fun j x hx => ?_⟩
  · simpa using hv
  · match j, hx with
    | 0, hx => simp at hx; subst hx; exact ⟨u1, rfl, h1⟩
    | 1, hx => simp at hx; subst hx; exact ⟨u2, rfl, h2⟩
    | 2, hx => simp at hx; subst hx; exact ⟨u3, rfl, h3⟩
    | j + 3, hx => simp at hx
/-- The literals of the example. -/
abbrev litW (w : World) (x y : Int) : World :=
  ((((((w.alloc (.cells #[.int .u8 x] 5)).alloc (.cells #[.int .u8 y] 5)).alloc (.cells #[.slice (some ⟨w.heap.size, 0, none⟩) 1 1, .slice (some ⟨w.heap.size + 1, 0, none⟩) 1 1] 25)).alloc (.cells #[.int .u8 1] 5)).alloc (.cells #[.int .u8 2] 5)).alloc (.cells #[.int .u8 3] 5)).alloc
    (.cells #[.slice (some ⟨w.heap.size + 1 + 1 + 1, 0, none⟩) 1 1, .slice (some ⟨w.heap.size + 1 + 1 + 1 + 1, 0, none⟩) 1 1, .slice (some ⟨w.heap.size + 1 + 1 + 1 + 1 + 1, 0, none⟩) 1 1] 25)
theorem PartLit_c (w : World) (x y : Int) (hx : 0 ≤ x ∧ x ≤ 255) (hy : 0 ≤ y ∧ y ≤ 255) :
    Calls Tryz.prog 36 #[.slice (some ⟨w.heap.size + 1 + 1, 0, none⟩) 2 2, .slice (some ⟨w.heap.size + 1 + 1 + 1 + 1 + 1 + 1, 0, none⟩) 3 3] (litW w x y) fun e w' => e = .returned (.bool (decide (([[1], [2], [3]] : List Oct).foldl stpO [[x], [y]] = []))) ∧ Below w.heap.size w w' := by
  have B0 := Blk.new w #[.int .u8 x] 5
  have B1 := Blk.newAt (w := w.alloc (.cells #[.int .u8 x] 5)) (n := w.heap.size + 1) (by simp) #[.int .u8 y] 5
  have B2 := Blk.newAt (w := (w.alloc (.cells #[.int .u8 x] 5)).alloc (.cells #[.int .u8 y] 5)) (n := w.heap.size + 1 + 1) (by simp) #[.slice (some ⟨w.heap.size, 0, none⟩) 1 1, .slice (some ⟨w.heap.size + 1, 0, none⟩) 1 1] 25
  have M1 : MsgV _ _ [[x], [y]] := MsgV.lit2 B2 (BytV.lit1 ((B0.alloc _).alloc _) hx) (BytV.lit1 (B1.alloc _) hy)
  generalize hw3 : ((w.alloc (.cells #[.int .u8 x] 5)).alloc (.cells #[.int .u8 y] 5)).alloc (.cells #[.slice (some ⟨w.heap.size, 0, none⟩) 1 1, .slice (some ⟨w.heap.size + 1, 0, none⟩) 1 1] 25) = w3 at M1
  have hs3 : w3.heap.size = w.heap.size + 1 + 1 + 1 := by rw [← hw3]; simp
  have bl3 : Below w.heap.size w w3 := by rw [← hw3]; exact bl_alloc (bl_alloc (bl_alloc (bl_refl w) _) _) _
  unfold litW
  rw [hw3, ← hs3]
  have C0 := Blk.new w3 #[.int .u8 1] 5
  have C1 := Blk.newAt (w := w3.alloc (.cells #[.int .u8 1] 5)) (n := w3.heap.size + 1) (by simp) #[.int .u8 2] 5
  have C2 := Blk.newAt (w := (w3.alloc (.cells #[.int .u8 1] 5)).alloc (.cells #[.int .u8 2] 5)) (n := w3.heap.size + 1 + 1) (by simp) #[.int .u8 3] 5
  have C3 := Blk.newAt (w := ((w3.alloc (.cells #[.int .u8 1] 5)).alloc (.cells #[.int .u8 2] 5)).alloc (.cells #[.int .u8 3] 5)) (n := w3.heap.size + 1 + 1 + 1) (by simp) #[.slice (some ⟨w3.heap.size, 0, none⟩) 1 1, .slice (some ⟨w3.heap.size + 1, 0, none⟩) 1 1, .slice (some ⟨w3.heap.size + 1 + 1, 0, none⟩) 1 1] 25
  have M2 := MsgV.lit3 C3 (BytV.lit1 (((C0.alloc _).alloc _).alloc _) (by decide)) (BytV.lit1 ((C1.alloc _).alloc _) (by decide)) (BytV.lit1 (C2.alloc _) (by decide))
  have bb := bl_alloc (bl_alloc (bl_alloc (bl_alloc (bl_refl w3) (.cells #[.int .u8 1] 5)) (.cells #[.int .u8 2] 5)) (.cells #[.int .u8 3] 5)) (.cells #[.slice (some ⟨w3.heap.size, 0, none⟩) 1 1, .slice (some ⟨w3.heap.size + 1, 0, none⟩) 1 1, .slice (some ⟨w3.heap.size + 1 + 1, 0, none⟩) 1 1] 25)
  exact (Part_c (M1.below bb) M2 (by simp)).mono fun e w' ⟨he, hb⟩ => ⟨he, bl_then (bl_then bl3 bb) hb⟩
theorem tally_field (m0 : Int) (w : World) : (Instr.field 73 (.agg #[.int .i64 0, .int .i64 0, .int .i64 m0, .int .i64 0, .int .u8 0]) 3).run Tryz.prog w = .ok (.int .i64 0) w := by kernel_rfl
theorem SAwake_c (w : World) : Calls Tryz.prog 27 #[] w fun e w' => e = .returned (.bool true) ∧ Below w.heap.size w w' := by
  have HU := Lib.hid (Usual_c false w)
  have HN := Lib.hid (fun w => (show Calls Tryz.prog 16 #[(usualP false).v, .int .i64 0] w _ from PrNewU_c false 0 (by omega) w))
  have HPA := Lib.hid (fun w => PartLit_c w 1 3 (by decide) (by decide))
  have HPB := Lib.hid (fun w => PartLit_c w 3 1 (by decide) (by decide))
  have ea : decide (([[1], [2], [3]] : List Oct).foldl stpO [[1], [3]] = []) = true := by decide
  have eb : decide (([[1], [2], [3]] : List Oct).foldl stpO [[3], [1]] = []) = false := by decide
  rw [ea] at HPA
  rw [eb] at HPB
  clear ea eb
  have tfl := tally_field
  go_enter Tryz.func27, Tryz.ntmps27
  go_upto_region 7 with (first
    | ((with_reducible refine HU.out.mono ?_); rintro e w2 ⟨rfl, b2⟩; have B2 := Lib.hid b2; clear b2)
    | ((with_reducible refine (HN.out _).mono ?_); rintro e w3 ⟨b, rfl, P3, b3⟩; have B3 := Lib.hid (bl_then B2.out b3); have HP3 := Lib.hid P3; have HB3 := Lib.hid b3; clear P3 b3)
    | ((with_reducible refine (ScNew_c _).mono ?_); rintro e w4 ⟨g, rfl, K4, b4, hg4⟩; have HW := Lib.hid (SWatch_c (HP3.out.below b4) K4 (Nat.le_trans HB3.out.size hg4) (bl_then HB3.out b4)); clear K4 b4 hg4)
    | ((with_reducible refine HW.out.mono ?_); rintro e w5 ⟨rfl, P5, b5⟩; have HG := Lib.hid (SBegin_c P5 b5); clear P5 b5)
    | ((with_reducible refine HG.out.mono ?_); rintro e w6 ⟨rfl, ⟨x6, s6, P6⟩, b6⟩; have HP6 := Lib.hid P6; have HB6 := Lib.hid (bl_then B2.out b6); clear P6 b6))
  obtain ⟨L, A, _, ⟨_, K6, _⟩, _⟩ := HP6.out.ex
  have HK6 := Lib.hid K6
  clear K6
  go_wp2_with (first
    | (go_at_call 36; (with_reducible refine (HPA.out _).mono ?_); rintro e w7 ⟨rfl, b7⟩; have B7 := Lib.hid b7; clear b7)
    | (go_at_call 36; (with_reducible refine (HPB.out _).mono ?_); rintro e w8 ⟨rfl, b8⟩; have B8 := Lib.hid (bl_then B7.out b8); have HTA := Lib.hid (ScTally_c (HK6.out.below B8.out)); clear b8)
    | ((with_reducible refine HTA.out.mono ?_); rintro e w9 ⟨rfl, b9⟩; have B9 := Lib.hid (bl_then B8.out b9); clear b9))
  go_ret
  exact ⟨rfl, bl_then HB6.out B9.out⟩
theorem ScoreNil_w (sd : Int) (k : Int) (vo : Value) (o : Oct) (W : World) (_c1 : 0 ≤ k ∧ k ≤ 255) (h1 : BytI W [] vo o) (_l1 : o.length ≤ maxLen) :
    Calls Tryz.prog 5 #[.int .i64 sd, .agg #[.int .u8 k, vo]] W fun e W' => e = .returned (.bool true) ∧ Below W.heap.size W W' := by
  obtain ⟨ao, co, rfl, hco⟩ := h1.shape
  obtain ⟨n, hn⟩ : ∃ n, o.length = n := ⟨_, rfl⟩
  rw [hn] at hco ⊢
  clear h1 _l1 _c1 hn
  have AW := Lib.hid (fun w => SAwake_c w)
  have AW2 := Lib.hid (fun w => SAwake_c w)
  have B1 := Lib.hid (bl_alloc (bl_refl W) (.cells #[.int .u8 k, .slice ao n co] 27))
  have N1 := Lib.hid (Blk.new W #[.int .u8 k, .slice ao n co] 27)
  have n1c := N1.out.c
  obtain ⟨go, hgo⟩ : ∃ g, W.heap.size = g := ⟨_, rfl⟩
  rw [hgo] at N1 n1c
  have TE := tally_eql
  have Q1 := Lib.hid (fun w => NScTick_c sd w)
  have Q2 := Lib.hid (fun w => NScOrder_c sd k ao n co w)
  have Q3 := Lib.hid (fun w => NScIn_c sd w)
  have Q4 := Lib.hid (fun w => NScOut_c sd w)
  have Q5 := Lib.hid (fun w => NScTold_c sd w)
  have Q6 := Lib.hid (fun w => NScTally_c sd w)
  by_cases hx : 100 < n
  · have hx' : (100 : Int) < n := by omega
    go_enter Tryz.func5, Tryz.ntmps5
    go_wp2_with (first
      | ((with_reducible refine (AW.out _).mono ?_); rintro e w2 ⟨rfl, b2⟩; have B2 := Lib.hid (bl_then B1.out b2); have n2c := (N1.out.below b2).c; clear b2 n1c)
      | ((with_reducible refine (AW2.out _).mono ?_); rintro e w3 ⟨rfl, b3⟩; have B3 := Lib.hid (bl_then B2.out b3); clear b3))
    go_ret
    exact ⟨rfl, B3.out⟩
  have hx' : ¬ (100 : Int) < n := by omega
  go_enter Tryz.func5, Tryz.ntmps5
  go_upto_region 5 with (first
    | ((with_reducible refine (AW.out _).mono ?_); rintro e w2 ⟨rfl, b2⟩; have B2 := Lib.hid (bl_then B1.out b2); have N2 := Lib.hid (N1.out.below b2); have n2c := N2.out.c; clear b2 n1c)
    | ((with_reducible refine (Q1.out _).mono ?_); rintro e w3 ⟨rfl, rfl⟩))
  go_upto_region 7 with (first
    | ((with_reducible refine (Q2.out _).mono ?_); rintro e w3 ⟨rfl, b3⟩; have B3 := Lib.hid (bl_then B2.out b3); have N3 := Lib.hid (N2.out.below b3); clear b3 n2c)
    | ((with_reducible refine (ScNew_c _).mono ?_); rintro e w4 ⟨g, rfl, K4, b4, hg4⟩; have B4 := Lib.hid (bl_then B3.out b4); have N4 := Lib.hid (N3.out.below b4); have HK4 := Lib.hid K4; have n4c := N4.out.c; clear K4 b4 hg4))
  have R1 := Lib.hid (fun w => OScTick_c g w)
  have R2 := Lib.hid (fun w => OScOrder_c g k ao n co w)
  have R3 := Lib.hid (fun w => OScIn_c g w)
  have R4 := Lib.hid (fun w => OScOut_c g w)
  have R5 := Lib.hid (fun w => OScTold_c g w)
  have R6 := Lib.hid (fun w => OScTally_c g w)
  go_upto_region 9 with (first
    | ((with_reducible refine (R1.out _).mono ?_); rintro e w5 ⟨rfl, rfl⟩)
    | ((with_reducible refine (R2.out _).mono ?_); rintro e w5 ⟨rfl, b5⟩; have B5 := Lib.hid (bl_then B4.out b5); have K5 := Lib.hid (HK4.out.below b5); clear b5 n4c))
  go_wp2_with (first
    | ((with_reducible refine (Q3.out _).mono ?_); rintro e w6 ⟨rfl, rfl⟩)
    | ((with_reducible refine (Q4.out _).mono ?_); rintro e w6 ⟨rfl, rfl⟩)
    | ((with_reducible refine (Q5.out _).mono ?_); rintro e w6 ⟨rfl, rfl⟩)
    | ((with_reducible refine (R3.out _).mono ?_); rintro e w6 ⟨rfl, rfl⟩)
    | ((with_reducible refine (R4.out _).mono ?_); rintro e w6 ⟨rfl, rfl⟩)
    | ((with_reducible refine (R5.out _).mono ?_); rintro e w6 ⟨rfl, rfl⟩)
    | ((with_reducible refine (Q6.out _).mono ?_); rintro e w7 ⟨rfl, b7⟩; have B7 := Lib.hid (bl_then B5.out b7); have K7 := Lib.hid (K5.out.below b7); clear b7)
    | ((with_reducible refine (R6.out _).mono ?_); rintro e w8 ⟨rfl, b8⟩; have B8 := Lib.hid (bl_then B7.out b8); have HT8 := Lib.hid (ScTally_c (K7.out.below b8)); clear b8)
    | ((with_reducible refine HT8.out.mono ?_); rintro e w9 ⟨rfl, b9⟩; have B9 := Lib.hid (bl_then B8.out b9); clear b9))
  go_ret
  exact ⟨rfl, B9.out⟩
end
end
end Go.Proofs.YtcllbmjmefeknaaGreatK
