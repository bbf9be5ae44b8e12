/- Setups that are one; a nil terminal. -/
import Derived.Test.YtdffinnnjcgfcaaGreatPb0
namespace Go.Proofs.YtdffinnnjcgfcaaGreatK
open Go Go.RowKit
set_option linter.unusedVariables false
set_option maxHeartbeats 20000000
set_option maxRecDepth 100000
def i64ok (n : Int) : Prop := (Lit.int .i64 n).wf = true
structure Su.wf (s : Su) : Prop where
  n1 : i64ok s.n1
  n2 : i64ok s.n2
  hd : i64ok s.hd
  oc : i64ok s.oc
  t0 : i64ok s.t0
  t1 : i64ok s.t1
  t2 : i64ok s.t2
  t3 : i64ok s.t3
  t4 : i64ok s.t4
  t5 : i64ok s.t5
  t6 : i64ok s.t6
  t7 : i64ok s.t7
theorem lits_int (d : Nat) (n : Int) (h : i64ok n) : Tryz.prog.keyLits (d + 1) 3 [.int .i64 n] = some [.int .i64 n] := by
  unfold Program.keyLits
  rw [Tryz.underlying3]
  exact if_pos ⟨rfl, h⟩
theorem lits_bool (d : Nat) (b : Bool) : Tryz.prog.keyLits (d + 1) 4 [.bool b] = some [.bool b] := by
  unfold Program.keyLits
  rw [Tryz.underlying4]
theorem lits_times (d : Nat) (t0 t1 t2 t3 t4 t5 t6 t7 : Int) (h0 : i64ok t0) (h1 : i64ok t1) (h2 : i64ok t2) (h3 : i64ok t3) (h4 : i64ok t4) (h5 : i64ok t5) (h6 : i64ok t6) (h7 : i64ok t7) :
    Tryz.prog.keyLits (d + 2) 35 [.int .i64 t0, .int .i64 t1, .int .i64 t2, .int .i64 t3, .int .i64 t4, .int .i64 t5, .int .i64 t6, .int .i64 t7] = some [.int .i64 t0, .int .i64 t1, .int .i64 t2, .int .i64 t3, .int .i64 t4, .int .i64 t5, .int .i64 t6, .int .i64 t7] := by
  unfold Program.keyLits
  rw [Tryz.underlying35]
  have hc : Tryz.prog.cellsOf 35 = 8 := by kernel_rfl
  have h1' : Tryz.prog.cellsOf 3 = 1 := by kernel_rfl
  dsimp only
  rw [if_pos (by rw [hc]; rfl), h1', show List.range 8 = [0, 1, 2, 3, 4, 5, 6, 7] from rfl]
  simp [lits_int, h0, h1, h2, h3, h4, h5, h6, h7]
theorem lits_setup (d : Nat) (s : Su) (hw : s.wf) : ∃ l, Tryz.prog.keyLits (d + 3) 37 s.v.cells.toList = some l := by
  obtain ⟨cyc, n1, n2, hd, oc, t0, t1, t2, t3, t4, t5, t6, t7⟩ := s
  obtain ⟨a1, a2, a3, a4, h0, h1, h2, h3, h4, h5, h6, h7⟩ := hw
  dsimp only at a1 a2 a3 a4 h0 h1 h2 h3 h4 h5 h6 h7
  have hc : Tryz.prog.cellsOf 37 = 13 := by kernel_rfl
  have c1 : Tryz.prog.cellsOf 3 = 1 := by kernel_rfl
  have c2 : Tryz.prog.cellsOf 4 = 1 := by kernel_rfl
  have c8 : Tryz.prog.cellsOf 35 = 8 := by kernel_rfl
  have LT := lits_times d t0 t1 t2 t3 t4 t5 t6 t7 h0 h1 h2 h3 h4 h5 h6 h7
  have L0 := lits_bool (d + 1) cyc
  have L1 := lits_int (d + 1) n1 a1
  have L2 := lits_int (d + 1) n2 a2
  have L3 := lits_int (d + 1) hd a3
  have L4 := lits_int (d + 1) oc a4
  unfold Program.keyLits
  rw [Tryz.underlying37]
  dsimp only
  rw [if_pos (by refine ⟨?_, ?_⟩; exact (by rw [hc]; rfl); kernel_rfl)]
  simp [Value.cells, c1, c2, c8, LT, L0, L1, L2, L3, L4]
theorem setup_key (s : Su) (hw : s.wf) : ∃ l, keyOf Tryz.prog 37 s.v = some l := by
  obtain ⟨m, hm⟩ : ∃ m, Tryz.prog.types.size + 1 = m + 3 := ⟨Tryz.prog.types.size - 2, by
    have : decide (2 ≤ Tryz.prog.types.size) = true := by kernel_rfl
    have := of_decide_eq_true this
    omega⟩
  obtain ⟨l, hl⟩ := lits_setup m s hw
  unfold keyOf
  rw [Tryz.underlying37]
  dsimp only
  rw [if_pos (by kernel_rfl), hm, hl]
  exact ⟨_, rfl⟩
theorem setup_equal (s : Su) (hw : s.wf) (W : World) : (Op.equal 37 s.v s.v).run Tryz.prog W = .ok true W := by
  obtain ⟨l, hl⟩ := setup_key s hw
  obtain ⟨r, hr, hi⟩ := run_equal_deep (P := Tryz.prog) W (m := 4) (by decide) (k := 37) (by kernel_rfl) (by kernel_rfl) hl hl
  rw [hr, hi.2 rfl]
theorem setup_neq (s : Su) (hw : s.wf) (W : World) : (binOp .neq 37 s.v s.v).run Tryz.prog W = .ok (.bool false) W := by
  have h := setup_equal s hw W
  unfold binOp
  simp only [Sem.run_bind, h, Result.andThen_ok, Sem.run_pure, Bool.not_true]
theorem setup_eql (s : Su) (hw : s.wf) (W : World) : (binOp .eql 37 s.v s.v).run Tryz.prog W = .ok (.bool true) W := by
  have h := setup_equal s hw W
  unfold binOp
  simp only [Sem.run_bind, h, Result.andThen_ok, Sem.run_pure]
theorem NTick_c (w : World) (c0 c1 c2 c3 c4 c5 c6 c7 : Bool) : Calls Tryz.prog 58 #[.pointer none, .agg #[.bool c0, .bool c1, .bool c2, .bool c3, .bool c4, .bool c5, .bool c6, .bool c7]] w fun e w' => e = .returned (.agg #[.bool false, .bool false, .bool false, .bool false, .bool false, .bool false, .bool false, .bool false]) ∧ Below w.heap.size w w' := by
  go_enter Tryz.func58, Tryz.ntmps58
  go_wp2
  refine bodyPost_ret (res_c rfl Bits8.laid rfl (Blk.alloc (Blk.newAt (w := w.alloc _) (n := w.heap.size + 1) (by simp) #[.bool false, .bool false, .bool false, .bool false, .bool false, .bool false, .bool false, .bool false] 98) _) rfl) rfl ⟨rfl, bl_alloc (bl_alloc (bl_alloc (bl_refl w) _) _) _⟩
theorem NOrder_c (w : World) (k : Int) (a : Option Addr) (n c : Nat) : Calls Tryz.prog 57 #[.pointer none, .agg #[.int .u8 k, .slice a n c]] w fun e w' => e = .returned (.int .i64 2) ∧ Below w.heap.size w w' := by
  go_enter Tryz.func57, Tryz.ntmps57
  go_wp2
  go_ret
  exact ⟨rfl, bl_alloc (bl_refl w) _⟩
theorem NTold_c (w : World) : Calls Tryz.prog 66 #[.pointer none] w fun e w' => e = .returned (.slice none 0 0) ∧ w = w' := by
  go_enter Tryz.func66, Tryz.ntmps66
  go_wp2
  go_ret
  exact ⟨rfl, rfl⟩
theorem NSent_c (w : World) : Calls Tryz.prog 60 #[.pointer none] w fun e w' => e = .returned (.slice none 0 0) ∧ w = w' := by
  go_enter Tryz.func60, Tryz.ntmps60
  go_wp2
  go_ret
  exact ⟨rfl, rfl⟩
theorem NCame_c (w : World) : Calls Tryz.prog 65 #[.pointer none] w fun e w' => e = .returned (.slice none 0 0) ∧ w = w' := by
  go_enter Tryz.func65, Tryz.ntmps65
  go_wp2
  go_ret
  exact ⟨rfl, rfl⟩
theorem NState_c (w : World) : Calls Tryz.prog 68 #[.pointer none] w fun e w' => e = .returned (.pointer none) ∧ w = w' := by
  go_enter Tryz.func68, Tryz.ntmps68
  go_wp2
  go_ret
  exact ⟨rfl, rfl⟩
theorem times_equal (t0 t1 t2 t3 t4 t5 t6 t7 : Int) (h0 : i64ok t0) (h1 : i64ok t1) (h2 : i64ok t2) (h3 : i64ok t3) (h4 : i64ok t4) (h5 : i64ok t5) (h6 : i64ok t6) (h7 : i64ok t7) (W : World) :
    (Op.equalIn 9999 35 (.agg #[.int .i64 t0, .int .i64 t1, .int .i64 t2, .int .i64 t3, .int .i64 t4, .int .i64 t5, .int .i64 t6, .int .i64 t7]) (.agg #[.int .i64 t0, .int .i64 t1, .int .i64 t2, .int .i64 t3, .int .i64 t4, .int .i64 t5, .int .i64 t6, .int .i64 t7])).run Tryz.prog W = .ok true W := by
  have hl := lits_times 0 t0 t1 t2 t3 t4 t5 t6 t7 h0 h1 h2 h3 h4 h5 h6 h7
  obtain ⟨r, hr, hi⟩ := run_equalIn_deep (P := Tryz.prog) 9997 2 35 (by kernel_rfl) W (0 + 2) (0 + 2) (.agg #[.int .i64 t0, .int .i64 t1, .int .i64 t2, .int .i64 t3, .int .i64 t4, .int .i64 t5, .int .i64 t6, .int .i64 t7]) (.agg #[.int .i64 t0, .int .i64 t1, .int .i64 t2, .int .i64 t3, .int .i64 t4, .int .i64 t5, .int .i64 t6, .int .i64 t7]) _ _ (by kernel_rfl) (by kernel_rfl) hl hl
  rw [hr, hi.2 rfl]
def Su.zero : Su := ⟨false, 0, 0, 0, 0, 0, 0, 0, 0, 0, 0, 0, 0⟩
theorem NSetup_c (w : World) : Calls Tryz.prog 67 #[.pointer none] w fun e w' => e = .returned (.agg #[.bool false, .int .i64 0, .int .i64 0, .int .i64 0, .int .i64 0, .int .i64 0, .int .i64 0, .int .i64 0, .int .i64 0, .int .i64 0, .int .i64 0, .int .i64 0, .int .i64 0]) ∧ Below w.heap.size w w' := by
  go_enter Tryz.func67, Tryz.ntmps67
  go_wp2
  exact bodyPost_ret (res_c rfl Su.laid rfl (Blk.new w _ _) rfl) rfl ⟨rfl, bl_alloc (bl_refl w) _⟩
end Go.Proofs.YtdffinnnjcgfcaaGreatK
