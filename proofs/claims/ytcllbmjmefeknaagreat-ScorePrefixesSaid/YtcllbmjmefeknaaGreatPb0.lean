/- The walk of setup.Check over any setup; post.New; a nil terminal. Setups that are one; a nil terminal. Small walks of terminals. -/
import Derived.Test.YtcllbmjmefeknaaGreatTe7
import Derived.DeepKeys
namespace Go.Proofs.YtcllbmjmefeknaaGreatK
/-! ### The walk of setup.Check over any setup; post.New; a nil terminal. -/
section
open Go Go.RowKit
set_option linter.unusedVariables false
set_option maxHeartbeats 20000000
set_option maxRecDepth 100000
def inS (n a b : Int) : Bool := decide (a ≤ n) && decide (n ≤ b)
theorem SWithin_c (n a b : Int) (w : World) : Calls Tryz.prog 70 #[.int .i64 n, .int .i64 a, .int .i64 b] w fun e w' => e = .returned (.bool (inS n a b)) ∧ w = w' := by
  by_cases h1 : a ≤ n
  · by_cases h2 : n ≤ b
    · rw [show inS n a b = true by simp [inS, h1, h2]]
      go_enter Tryz.func70, Tryz.ntmps70
      go_wp2
      go_ret
      exact ⟨rfl, rfl⟩
    · rw [show inS n a b = false by simp [inS, h2]]
      go_enter Tryz.func70, Tryz.ntmps70
      go_wp2
      go_ret
      exact ⟨rfl, rfl⟩
  · rw [show inS n a b = false by simp [inS, h1]]
    go_enter Tryz.func70, Tryz.ntmps70
    go_wp2
    go_ret
    exact ⟨rfl, rfl⟩
def Su.ts (s : Su) : List Int := [s.t0, s.t1, s.t2, s.t3, s.t4, s.t5, s.t6, s.t7]
def timesS (l : List Int) : Bool := l.all fun t => inS t 1 4294967296
def chkS (s : Su) : Int :=
  if timesS s.ts = false then 1
  else if (!inS s.n1 1 127 || !inS s.n2 1 1048576) = true then 1
  else if (!inS s.hd 1 512 || !inS s.oc 273 1048576) = true then 1
  else if (decide (s.t4 < s.t0) || decide (s.t6 ≤ s.t5)) = true then 10 else 0
theorem Check_c (s : Su) (w : World) : Calls Tryz.prog 17 #[s.v] w fun e w' => e = .returned (.int .i64 (chkS s)) ∧ Below w.heap.size w w' := by
  have HW := Lib.hid SWithin_c
  obtain ⟨R, hR⟩ : ∃ R, chkS s = R := ⟨_, rfl⟩
  rw [hR]
  have HRR := Lib.hid hR
  clear hR
  obtain ⟨cyc, n1, n2, hd, oc, t0, t1, t2, t3, t4, t5, t6, t7⟩ := s
  go_enter Tryz.func17, Tryz.ntmps17
  go_wp2
  generalize hO : w.alloc _ = w1
  have HB : Below w.heap.size w w1 := by rw [← hO]; exact bl_alloc (bl_refl w) _
  have hN : Blk w1 w.heap.size #[.bool cyc, .int .i64 n1, .int .i64 n2, .int .i64 hd, .int .i64 oc, .int .i64 t0, .int .i64 t1, .int .i64 t2, .int .i64 t3, .int .i64 t4, .int .i64 t5, .int .i64 t6, .int .i64 t7] 24 := by rw [← hO]; exact Blk.new w _ _
  clear hO
  have hc := hN.c
  go_loopw [7] (fun i wr => ∃ k : Nat, k ≤ 8 ∧ i = .int .i64 k ∧ wr = w1 ∧ timesS ([t0, t1, t2, t3, t4, t5, t6, t7].take k) = true) (fun i _ => 8 - (intOf i).toNat)
  case atStart => exact ⟨0, by omega, rfl, rfl, rfl⟩
  case round =>
    obtain ⟨k, hk, rfl, rfl, hts⟩ := hrel
    by_cases hlt : k < 8
    · have hlt' : (k : Int) < 8 := by omega
      have hi : ∃ t : Int, (Instr.index 22 (.agg #[Value.int .i64 t0, .int .i64 t1, .int .i64 t2, .int .i64 t3, .int .i64 t4, .int .i64 t5, .int .i64 t6, .int .i64 t7]) (.int .i64 k)).run Tryz.prog wr = .ok (.int .i64 t) wr ∧ [t0, t1, t2, t3, t4, t5, t6, t7][k]? = some t := by
        rcases (by omega : k = 0 ∨ k = 1 ∨ k = 2 ∨ k = 3 ∨ k = 4 ∨ k = 5 ∨ k = 6 ∨ k = 7) with rfl | rfl | rfl | rfl | rfl | rfl | rfl | rfl
        · exact ⟨t0, by kernel_rfl, rfl⟩
        · exact ⟨t1, by kernel_rfl, rfl⟩
        · exact ⟨t2, by kernel_rfl, rfl⟩
        · exact ⟨t3, by kernel_rfl, rfl⟩
        · exact ⟨t4, by kernel_rfl, rfl⟩
        · exact ⟨t5, by kernel_rfl, rfl⟩
        · exact ⟨t6, by kernel_rfl, rfl⟩
        · exact ⟨t7, by kernel_rfl, rfl⟩
      obtain ⟨t, ht, hkt⟩ := hi
      have HK := Lib.hid hkt
      have HTS := Lib.hid hts
      have hwt := HW.out t 1 4294967296 wr
      obtain ⟨q, hq⟩ : ∃ q, inS t 1 4294967296 = q := ⟨_, rfl⟩
      rw [hq] at hwt
      have HWT := Lib.hid hwt
      have HQ := Lib.hid hq
      clear hkt hts hwt hq
      cases q with
      | true =>
        go_wp2_with (first | ((with_reducible refine HWT.out.mono ?_); rintro e w2 ⟨rfl, rfl⟩))
        go_roundw
        case rel => exact ⟨k + 1, by omega, by go_num, trivial, by
          rw [List.take_add_one, HK.out]
          have h1 := HTS.out
          have h2 := HQ.out
          unfold timesS at h1 ⊢
          rw [List.all_append, h1]
          simp [h2]⟩
        case measure => simp [intOf]; omega
      | false =>
        go_wp2_with (first | ((with_reducible refine HWT.out.mono ?_); rintro e w2 ⟨rfl, rfl⟩))
        go_ret
        have h1 : R = 1 := by
          rw [← HRR.out]
          unfold chkS
          have h2 : timesS (Su.ts ⟨cyc, n1, n2, hd, oc, t0, t1, t2, t3, t4, t5, t6, t7⟩) = false := by
            unfold timesS
            rw [List.all_eq_false]
            exact ⟨t, List.mem_of_getElem? HK.out, by rw [HQ.out]; simp⟩
          rw [if_pos h2]
        exact ⟨by rw [h1]; rfl, HB⟩
    · have hk9 : k = 8 := by omega
      have e8 : (k : Int) = 8 := by omega
      rw [e8]
      subst hk9
      clear e8
      have hall : timesS (Su.ts ⟨cyc, n1, n2, hd, oc, t0, t1, t2, t3, t4, t5, t6, t7⟩) = true := hts
      have hRR := HRR.out
      unfold chkS at hRR
      rw [if_neg (by rw [hall]; simp)] at hRR
      dsimp only at hRR
      have W1 := Lib.hid (HW.out n1 1 127 wr)
      have W2 := Lib.hid (HW.out n2 1 1048576 wr)
      have W3 := Lib.hid (HW.out hd 1 512 wr)
      have W4 := Lib.hid (HW.out oc 273 1048576 wr)
      generalize inS n1 1 127 = q1 at hRR W1
      generalize inS n2 1 1048576 = q2 at hRR W2
      generalize inS hd 1 512 = q3 at hRR W3
      generalize inS oc 273 1048576 = q4 at hRR W4
      clear hall hts HW
      have fin : ∀ r : Int, R = r → R = r := fun _ h => h
      cases q1 <;> cases q2 <;> cases q3 <;> cases q4 <;> by_cases h5 : t4 < t0 <;> by_cases h6 : t6 ≤ t5 <;> simp only [h5, h6, decide_true, decide_false, Bool.not_true, Bool.not_false, Bool.or_true, Bool.or_false, if_true, Bool.false_eq_true, if_false] at hRR <;> subst hRR
      all_goals
        go_wp2_with (first
          | ((with_reducible refine W1.out.mono ?_); rintro e w2 ⟨rfl, rfl⟩)
          | ((with_reducible refine W2.out.mono ?_); rintro e w2 ⟨rfl, rfl⟩)
          | ((with_reducible refine W3.out.mono ?_); rintro e w2 ⟨rfl, rfl⟩)
          | ((with_reducible refine W4.out.mono ?_); rintro e w2 ⟨rfl, rfl⟩))
        go_ret
        exact ⟨rfl, HB⟩
end
/-! ### Setups that are one; a nil terminal. -/
section
open Go Go.RowKit
set_option linter.unusedVariables false
set_option maxHeartbeats 20000000
set_option maxRecDepth 100000
def i64ok (n : Int) : Prop := (Lit.int .i64 n).wf = true
structure Su.wf (s : Su) : Prop where
  n1 : i64ok s.n1
  n2 : i64ok s.n2
  hd : i64ok s.hd
  oc : i64ok s.oc
  t0 : i64ok s.t0
  t1 : i64ok s.t1
  t2 : i64ok s.t2
  t3 : i64ok s.t3
  t4 : i64ok s.t4
  t5 : i64ok s.t5
  t6 : i64ok s.t6
  t7 : i64ok s.t7
theorem lits_int (d : Nat) (n : Int) (h : i64ok n) : Tryz.prog.keyLits (d + 1) 3 [.int .i64 n] = some [.int .i64 n] := by
  unfold Program.keyLits
  rw [Tryz.underlying3]
  exact if_pos ⟨rfl, h⟩
theorem lits_bool (d : Nat) (b : Bool) : Tryz.prog.keyLits (d + 1) 4 [.bool b] = some [.bool b] := by
  unfold Program.keyLits
  rw [Tryz.underlying4]
theorem lits_times (d : Nat) (t0 t1 t2 t3 t4 t5 t6 t7 : Int) (h0 : i64ok t0) (h1 : i64ok t1) (h2 : i64ok t2) (h3 : i64ok t3) (h4 : i64ok t4) (h5 : i64ok t5) (h6 : i64ok t6) (h7 : i64ok t7) :
    Tryz.prog.keyLits (d + 2) 22 [.int .i64 t0, .int .i64 t1, .int .i64 t2, .int .i64 t3, .int .i64 t4, .int .i64 t5, .int .i64 t6, .int .i64 t7] = some [.int .i64 t0, .int .i64 t1, .int .i64 t2, .int .i64 t3, .int .i64 t4, .int .i64 t5, .int .i64 t6, .int .i64 t7] := by
  unfold Program.keyLits
  rw [Tryz.underlying22]
  have hc : Tryz.prog.cellsOf 22 = 8 := by kernel_rfl
  have h1' : Tryz.prog.cellsOf 3 = 1 := by kernel_rfl
  dsimp only
  rw [if_pos (by rw [hc]; rfl), h1', show List.range 8 = [0, 1, 2, 3, 4, 5, 6, 7] from rfl]
  simp [lits_int, h0, h1, h2, h3, h4, h5, h6, h7]
theorem lits_setup (d : Nat) (s : Su) (hw : s.wf) : ∃ l, Tryz.prog.keyLits (d + 3) 24 s.v.cells.toList = some l := by
  obtain ⟨cyc, n1, n2, hd, oc, t0, t1, t2, t3, t4, t5, t6, t7⟩ := s
  obtain ⟨a1, a2, a3, a4, h0, h1, h2, h3, h4, h5, h6, h7⟩ := hw
  dsimp only at a1 a2 a3 a4 h0 h1 h2 h3 h4 h5 h6 h7
  have hc : Tryz.prog.cellsOf 24 = 13 := by kernel_rfl
  have c1 : Tryz.prog.cellsOf 3 = 1 := by kernel_rfl
  have c2 : Tryz.prog.cellsOf 4 = 1 := by kernel_rfl
  have c8 : Tryz.prog.cellsOf 22 = 8 := by kernel_rfl
  have LT := lits_times d t0 t1 t2 t3 t4 t5 t6 t7 h0 h1 h2 h3 h4 h5 h6 h7
  have L0 := lits_bool (d + 1) cyc
  have L1 := lits_int (d + 1) n1 a1
  have L2 := lits_int (d + 1) n2 a2
  have L3 := lits_int (d + 1) hd a3
  have L4 := lits_int (d + 1) oc a4
  unfold Program.keyLits
  rw [Tryz.underlying24]
  dsimp only
  rw [if_pos (by refine ⟨?_, ?_⟩; exact (by rw [hc]; rfl); kernel_rfl)]
  simp [Value.cells, c1, c2, c8, LT, L0, L1, L2, L3, L4]
theorem setup_key (s : Su) (hw : s.wf) : ∃ l, keyOf Tryz.prog 24 s.v = some l := by
  obtain ⟨m, hm⟩ : ∃ m, Tryz.prog.types.size + 1 = m + 3 := ⟨Tryz.prog.types.size - 2, by
    have : decide (2 ≤ Tryz.prog.types.size) = true := by kernel_rfl
    have := of_decide_eq_true this
    omega⟩
  obtain ⟨l, hl⟩ := lits_setup m s hw
  unfold keyOf
  rw [Tryz.underlying24]
  dsimp only
  rw [if_pos (by kernel_rfl), hm, hl]
  exact ⟨_, rfl⟩
theorem setup_equal (s : Su) (hw : s.wf) (W : World) : (Op.equal 24 s.v s.v).run Tryz.prog W = .ok true W := by
  obtain ⟨l, hl⟩ := setup_key s hw
  obtain ⟨r, hr, hi⟩ := run_equal_deep (P := Tryz.prog) W (m := 4) (by decide) (k := 24) (by kernel_rfl) (by kernel_rfl) hl hl
  rw [hr, hi.2 rfl]
theorem setup_neq (s : Su) (hw : s.wf) (W : World) : (binOp .neq 24 s.v s.v).run Tryz.prog W = .ok (.bool false) W := by
  have h := setup_equal s hw W
  unfold binOp
  simp only [Sem.run_bind, h, Result.andThen_ok, Sem.run_pure, Bool.not_true]
theorem setup_eql (s : Su) (hw : s.wf) (W : World) : (binOp .eql 24 s.v s.v).run Tryz.prog W = .ok (.bool true) W := by
  have h := setup_equal s hw W
  unfold binOp
  simp only [Sem.run_bind, h, Result.andThen_ok, Sem.run_pure]
theorem NTick_c (w : World) (c0 c1 c2 c3 c4 c5 c6 c7 : Bool) : Calls Tryz.prog 72 #[.pointer none, .agg #[.bool c0, .bool c1, .bool c2, .bool c3, .bool c4, .bool c5, .bool c6, .bool c7]] w fun e w' => e = .returned (.agg #[.bool false, .bool false, .bool false, .bool false, .bool false, .bool false, .bool false, .bool false]) ∧ Below w.heap.size w w' := by
  go_enter Tryz.func72, Tryz.ntmps72
  go_wp2
  refine bodyPost_ret (res_c rfl Bits8.laid rfl (Blk.alloc (Blk.newAt (w := w.alloc _) (n := w.heap.size + 1) (by simp) #[.bool false, .bool false, .bool false, .bool false, .bool false, .bool false, .bool false, .bool false] 124) _) rfl) rfl ⟨rfl, bl_alloc (bl_alloc (bl_alloc (bl_refl w) _) _) _⟩
theorem NOrder_c (w : World) (k : Int) (a : Option Addr) (n c : Nat) : Calls Tryz.prog 78 #[.pointer none, .agg #[.int .u8 k, .slice a n c]] w fun e w' => e = .returned (.int .i64 2) ∧ Below w.heap.size w w' := by
  go_enter Tryz.func78, Tryz.ntmps78
  go_wp2
  go_ret
  exact ⟨rfl, bl_alloc (bl_refl w) _⟩
theorem NTold_c (w : World) : Calls Tryz.prog 74 #[.pointer none] w fun e w' => e = .returned (.slice none 0 0) ∧ w = w' := by
  go_enter Tryz.func74, Tryz.ntmps74
  go_wp2
  go_ret
  exact ⟨rfl, rfl⟩
theorem NSent_c (w : World) : Calls Tryz.prog 86 #[.pointer none] w fun e w' => e = .returned (.slice none 0 0) ∧ w = w' := by
  go_enter Tryz.func86, Tryz.ntmps86
  go_wp2
  go_ret
  exact ⟨rfl, rfl⟩
theorem NCame_c (w : World) : Calls Tryz.prog 87 #[.pointer none] w fun e w' => e = .returned (.slice none 0 0) ∧ w = w' := by
  go_enter Tryz.func87, Tryz.ntmps87
  go_wp2
  go_ret
  exact ⟨rfl, rfl⟩
theorem NState_c (w : World) : Calls Tryz.prog 26 #[.pointer none] w fun e w' => e = .returned (.pointer none) ∧ w = w' := by
  go_enter Tryz.func26, Tryz.ntmps26
  go_wp2
  go_ret
  exact ⟨rfl, rfl⟩
theorem times_equal (t0 t1 t2 t3 t4 t5 t6 t7 : Int) (h0 : i64ok t0) (h1 : i64ok t1) (h2 : i64ok t2) (h3 : i64ok t3) (h4 : i64ok t4) (h5 : i64ok t5) (h6 : i64ok t6) (h7 : i64ok t7) (W : World) :
    (Op.equalIn 9999 22 (.agg #[.int .i64 t0, .int .i64 t1, .int .i64 t2, .int .i64 t3, .int .i64 t4, .int .i64 t5, .int .i64 t6, .int .i64 t7]) (.agg #[.int .i64 t0, .int .i64 t1, .int .i64 t2, .int .i64 t3, .int .i64 t4, .int .i64 t5, .int .i64 t6, .int .i64 t7])).run Tryz.prog W = .ok true W := by
  have hl := lits_times 0 t0 t1 t2 t3 t4 t5 t6 t7 h0 h1 h2 h3 h4 h5 h6 h7
  obtain ⟨r, hr, hi⟩ := run_equalIn_deep (P := Tryz.prog) 9997 2 22 (by kernel_rfl) W (0 + 2) (0 + 2) (.agg #[.int .i64 t0, .int .i64 t1, .int .i64 t2, .int .i64 t3, .int .i64 t4, .int .i64 t5, .int .i64 t6, .int .i64 t7]) (.agg #[.int .i64 t0, .int .i64 t1, .int .i64 t2, .int .i64 t3, .int .i64 t4, .int .i64 t5, .int .i64 t6, .int .i64 t7]) _ _ (by kernel_rfl) (by kernel_rfl) hl hl
  rw [hr, hi.2 rfl]
def Su.zero : Su := ⟨false, 0, 0, 0, 0, 0, 0, 0, 0, 0, 0, 0, 0⟩
end
/-! ### Small walks of terminals. -/
section
open Go Go.RowKit
set_option linter.unusedVariables false
set_option maxHeartbeats 40000000
set_option maxRecDepth 100000
theorem PNewE_c (s : Su) (w : World) {f : Int} (hf : chkS s = f) (h0 : f ≠ 0) : Calls Tryz.prog 68 #[s.v] w fun e w' => e = .returned (.tuple #[.pointer none, .int .i64 f]) ∧ Below w.heap.size w w' := by
  have HC := Lib.hid (fun w => Check_c s w)
  rw [hf] at HC
  have k0 : (f == 0) = false := beq_eq_false_iff_ne.2 h0
  clear hf h0
  obtain ⟨cyc, n1, n2, hd, oc, t0, t1, t2, t3, t4, t5, t6, t7⟩ := s
  have B0 := Lib.hid (bl_alloc (bl_refl w) (.cells #[.bool cyc, .int .i64 n1, .int .i64 n2, .int .i64 hd, .int .i64 oc, .int .i64 t0, .int .i64 t1, .int .i64 t2, .int .i64 t3, .int .i64 t4, .int .i64 t5, .int .i64 t6, .int .i64 t7] 24))
  go_enter Tryz.func68, Tryz.ntmps68
  go_wp2_with (first
    | ((with_reducible refine (HC.out _).mono ?_); rintro e w2 ⟨rfl, b2⟩; have B2 := Lib.hid (bl_then B0.out b2); clear b2))
  go_ret2
  exact ⟨rfl, B2.out⟩
theorem PState_c {w : World} {b : Nat} {p : Po} {L : PoL} (h : PoAt w b p L) : Calls Tryz.prog 26 #[.pointer (some ⟨b, 0, none⟩)] w fun e w' => e = .returned (.pointer (some ⟨L.bx, 0, none⟩)) ∧ w = w' := by
  have hc := h.blk.c
  clear h
  go_enter Tryz.func26, Tryz.ntmps26
  go_wp2
  go_ret
  exact ⟨rfl, rfl⟩
theorem PTold_c {w : World} {b : Nat} {p : Po} {L : PoL} (h : PoAt w b p L) : Calls Tryz.prog 74 #[.pointer (some ⟨b, 0, none⟩)] w fun e w' => e = .returned L.L.vt ∧ Tolds w' L.L.vt p.x.told ∧ PoTo w w' b { p with x := { p.x with told := [] } } L ∧ Chg [L.bx] w w' := by
  have H := Lib.hid h
  have HT := Lib.hid (Told_c h.lk)
  have hc := h.blk.c
  clear h
  go_enter Tryz.func74, Tryz.ntmps74
  go_wp2_with (first
    | ((with_reducible refine HT.out.mono ?_); rintro e w2 ⟨rfl, S2, T2, G2⟩))
  obtain ⟨at_, ct, e0, _⟩ := T2.shape
  rw [e0]
  go_ret
  rw [← e0]
  have hm : ∀ k ∈ [L.bx], k ∈ stF L.bx L.L := fun k hk => by
    obtain rfl : k = L.bx := by simpa using hk
    exact List.mem_cons_self ..
  exact ⟨rfl, T2, PoTo.byX H.out ⟨{ L.L with vt := nil0 }, S2, G2.more hm, fun k hk => .inl (by
    have z : k ∉ own nil0 := by simp [own, Value.ownBlock]
    simp only [stF, List.mem_append] at hk ⊢
    rcases hk with h1 | h1 | h1 | h1 | h1 | h1
    · exact .inl h1
    · exact .inr (.inl h1)
    · exact .inr (.inr (.inl h1))
    · exact .inr (.inr (.inr (.inl h1)))
    · exact .inr (.inr (.inr (.inr (.inl h1))))
    · exact absurd h1 z)⟩, G2⟩
theorem store13 {w : World} {b : Nat} {t : TypeId} {c0 c1 c2 c3 c4 c5 c6 c7 c8 c9 c10 c11 c12 : Value} (h : Blk w b #[c0, c1, c2, c3, c4, c5, c6, c7, c8, c9, c10, c11, c12] t) (v0 v1 v2 v3 v4 v5 v6 v7 v8 v9 v10 v11 v12 : Value) :
    Blk (((((((((((((w.setCell ⟨b, 0, none⟩ v0).setCell ⟨b, 1, none⟩ v1).setCell ⟨b, 2, none⟩ v2).setCell ⟨b, 3, none⟩ v3).setCell ⟨b, 4, none⟩ v4).setCell ⟨b, 5, none⟩ v5).setCell ⟨b, 6, none⟩ v6).setCell ⟨b, 7, none⟩ v7).setCell ⟨b, 8, none⟩ v8).setCell ⟨b, 9, none⟩ v9).setCell ⟨b, 10, none⟩ v10).setCell ⟨b, 11, none⟩ v11).setCell ⟨b, 12, none⟩ v12) b #[v0, v1, v2, v3, v4, v5, v6, v7, v8, v9, v10, v11, v12] t ∧ Chg [b] w (((((((((((((w.setCell ⟨b, 0, none⟩ v0).setCell ⟨b, 1, none⟩ v1).setCell ⟨b, 2, none⟩ v2).setCell ⟨b, 3, none⟩ v3).setCell ⟨b, 4, none⟩ v4).setCell ⟨b, 5, none⟩ v5).setCell ⟨b, 6, none⟩ v6).setCell ⟨b, 7, none⟩ v7).setCell ⟨b, 8, none⟩ v8).setCell ⟨b, 9, none⟩ v9).setCell ⟨b, 10, none⟩ v10).setCell ⟨b, 11, none⟩ v11).setCell ⟨b, 12, none⟩ v12) :=
  ⟨(((((((((((((h.set 0 v0).set 1 v1).set 2 v2).set 3 v3).set 4 v4).set 5 v5).set 6 v6).set 7 v7).set 8 v8).set 9 v9).set 10 v10).set 11 v11).set 12 v12).as (by simp), ((((((((((((((Chg.refl [b] w).set (.inl (by simp)) _).set (.inl (by simp)) _).set (.inl (by simp)) _).set (.inl (by simp)) _).set (.inl (by simp)) _).set (.inl (by simp)) _).set (.inl (by simp)) _).set (.inl (by simp)) _).set (.inl (by simp)) _).set (.inl (by simp)) _).set (.inl (by simp)) _).set (.inl (by simp)) _).set (.inl (by simp)) _)⟩
theorem PTold0_c {w : World} {b : Nat} {p : Po} {L : PoL} (h : PoAt w b p L) (h0 : p.x.told = []) (hs : p.sent = []) (hg : p.got = []) : Calls Tryz.prog 74 #[.pointer (some ⟨b, 0, none⟩)] w fun e w' => ∃ a c, e = .returned (.slice a 0 c) ∧ (∃ q L', PoAt w' b q L' ∧ q.sent = [] ∧ q.got = [] ∧ q.x.S = p.x.S ∧ L'.bx = L.bx) ∧ Chg [L.bx] w w' :=
  (PTold_c h).mono fun e w' ⟨he, T, ⟨L', A, hb, _⟩, G⟩ => by
    obtain ⟨a, c, e0, _⟩ := T.shape
    rw [h0] at e0
    exact ⟨a, c, by rw [he, e0]; rfl, ⟨_, L', A, hs, hg, rfl, hb⟩, G⟩
theorem PSent0_c {w : World} {b : Nat} {p : Po} {L : PoL} (h : PoAt w b p L) (hs : p.sent = []) : Calls Tryz.prog 86 #[.pointer (some ⟨b, 0, none⟩)] w fun e w' => ∃ a c, e = .returned (.slice a 0 c) ∧ w = w' :=
  (PSent_c h).mono fun e w' ⟨he, hw⟩ => by
    obtain ⟨a, c, e0, _⟩ := h.sn.shape
    rw [hs] at e0
    exact ⟨a, c, by rw [he, e0]; rfl, hw⟩
theorem PCame0_c {w : World} {b : Nat} {p : Po} {L : PoL} (h : PoAt w b p L) (hg : p.got = []) : Calls Tryz.prog 87 #[.pointer (some ⟨b, 0, none⟩)] w fun e w' => ∃ a c, e = .returned (.slice a 0 c) ∧ w = w' :=
  (PCame_c h).mono fun e w' ⟨he, hw⟩ => by
    obtain ⟨a, c, e0, _⟩ := h.gt.shape
    rw [hg] at e0
    exact ⟨a, c, by rw [he, e0]; rfl, hw⟩
theorem PoAt.cell0 {w : World} {b : Nat} {p : Po} {L : PoL} (h : PoAt w b p L) : w.cell? ⟨L.bx, 0, none⟩ = some (.int .u8 p.x.S) := h.lk.st.c 0
theorem one_bel {W w5 w8 : World} {bx : Nat} (B : Below W.heap.size W w5) (G : Chg [bx] w5 w8) (h : W.heap.size ≤ bx) : Below W.heap.size W w8 :=
  B.trans (G.to_below B.size (fun k hk => by
    obtain rfl : k = bx := by simpa using hk
    exact h))
theorem usual_wf (cyc : Bool) : (usualP cyc).wf := by cases cyc <;> exact ⟨rfl, rfl, rfl, rfl, rfl, rfl, rfl, rfl, rfl, rfl, rfl, rfl⟩
end
end Go.Proofs.YtcllbmjmefeknaaGreatK
