/- StateNil: a nil link does nothing; names of states. -/
import Derived.Test.YtdffinnnjcgfcaaGreatLw2
import Derived.Test.YtdffinnnjcgfcaaGreatLab
namespace Go.Proofs.YtdffinnnjcgfcaaGreatK
open Go Go.RowKit
set_option linter.unusedVariables false
set_option maxHeartbeats 1000000
set_option maxRecDepth 100000
theorem TickN_c (w : World) : Calls Tryz.prog 28 #[.pointer none] w fun e w' => e = .returned (.tuple #[]) ∧ w = w' := by
  go_enter Tryz.func28, Tryz.ntmps28
  go_wp2
  refine bodyPost_ret (results_none rfl _ _ _) rfl ?_
  exact ⟨rfl, rfl⟩
theorem CountN_c (w : World) (b : Bool) : Calls Tryz.prog 84 #[.pointer none, .bool b] w fun e w' => e = .returned (.tuple #[]) ∧ w = w' := by
  go_enter Tryz.func84, Tryz.ntmps84
  go_wp2
  go_end0
  exact ⟨rfl, rfl⟩
theorem DamageN_c (w : World) : Calls Tryz.prog 39 #[.pointer none] w fun e w' => e = .returned (.tuple #[]) ∧ w = w' := by
  go_enter Tryz.func39, Tryz.ntmps39
  go_wp2_with (first | ((with_reducible refine (CountN_c _ _).mono ?_); rintro e w1 ⟨rfl, rfl⟩))
  go_end0
  exact ⟨rfl, rfl⟩
theorem HearN_c (w : World) (u : Un) (vi : Value) : Calls Tryz.prog 31 #[.pointer none, u.v vi] w fun e w' => e = .returned (.tuple #[]) ∧ Below w.heap.size w w' := by
  obtain ⟨bsn, fsn, bib, fib, kind, status, wide, info⟩ := u
  go_enter Tryz.func31, Tryz.ntmps31
  go_wp2_with (first | ((with_reducible refine (CountN_c _ _).mono ?_); rintro e w1 ⟨rfl, rfl⟩))
  go_end0
  exact ⟨rfl, bl_alloc (bl_refl w) _⟩
theorem FailN_c (w : World) (s : Int) : Calls Tryz.prog 44 #[.pointer none, .int .u8 s] w fun e w' => e = .returned (.tuple #[]) ∧ w = w' := by
  go_enter Tryz.func44, Tryz.ntmps44
  go_wp2
  refine bodyPost_ret (results_none rfl _ _ _) rfl ?_
  exact ⟨rfl, rfl⟩
theorem OrderN_c (w : World) (k : Int) (v : Value) : Calls Tryz.prog 26 #[.pointer none, .agg #[.int .u8 k, v]] w fun e w' => e = .returned (.int .i64 2) ∧ Below w.heap.size w w' := by
  go_enter Tryz.func26, Tryz.ntmps26
  go_wp2
  go_ret
  exact ⟨rfl, bl_alloc (bl_refl w) _⟩
theorem ToldN_c (w : World) : Calls Tryz.prog 29 #[.pointer none] w fun e w' => e = .returned nil0 ∧ w = w' := by
  go_enter Tryz.func29, Tryz.ntmps29
  go_wp2
  go_ret
  exact ⟨rfl, rfl⟩
theorem NextN_c (w : World) : Calls Tryz.prog 27 #[.pointer none] w fun e w' => e = .returned (Un.nil.v nil0) ∧ Below w.heap.size w w' := by
  go_enter Tryz.func27, Tryz.ntmps27
  go_wp2
  exact bodyPost_ret (res_c rfl Un.laid rfl (Blk.new _ _ _) rfl) rfl ⟨rfl, bl_alloc (bl_refl w) _⟩
theorem FailsN_c (w : World) : Calls Tryz.prog 41 #[.pointer none] w fun e w' => e = .returned (.int .i64 0) ∧ w = w' := by
  go_enter Tryz.func41, Tryz.ntmps41
  go_wp2
  go_ret
  exact ⟨rfl, rfl⟩
theorem WrongN_c (w : World) : Calls Tryz.prog 40 #[.pointer none] w fun e w' => e = .returned (.int .i64 0) ∧ w = w' := by
  go_enter Tryz.func40, Tryz.ntmps40
  go_wp2
  go_ret
  exact ⟨rfl, rfl⟩
/-- A state's name. -/
def nameB (s : Int) : ByteArray := if s = 0 then ⟨#[111, 117, 116]⟩ else if s = 1 then ⟨#[97, 108, 105, 103, 110, 105, 110, 103]⟩ else if s = 2 then ⟨#[114, 101, 97, 100, 121]⟩ else if s = 3 then ⟨#[110, 111, 116, 114, 101, 97, 100, 121]⟩ else if s = 4 then ⟨#[115, 101, 114, 118, 105, 99, 101]⟩ else if s = 5 then ⟨#[104, 97, 108, 116, 101, 100]⟩ else ⟨#[]⟩
theorem Name_c (w : World) (s : Int) : Calls Tryz.prog 45 #[.int .u8 s] w fun e w' => e = .returned (.string (nameB s)) ∧ w = w' := by
  by_cases h0 : s = 0
  · subst h0
    rw [show nameB 0 = ⟨#[111, 117, 116]⟩ from rfl]
    go_enter Tryz.func45, Tryz.ntmps45
    go_wp2
    go_ret
    exact ⟨rfl, rfl⟩
  have k0 : (s == 0) = false := beq_eq_false_iff_ne.2 h0
  by_cases h1 : s = 1
  · subst h1
    rw [show nameB 1 = ⟨#[97, 108, 105, 103, 110, 105, 110, 103]⟩ from rfl]
    go_enter Tryz.func45, Tryz.ntmps45
    go_wp2
    go_ret
    exact ⟨rfl, rfl⟩
  have k1 : (s == 1) = false := beq_eq_false_iff_ne.2 h1
  by_cases h2 : s = 2
  · subst h2
    rw [show nameB 2 = ⟨#[114, 101, 97, 100, 121]⟩ from rfl]
    go_enter Tryz.func45, Tryz.ntmps45
    go_wp2
    go_ret
    exact ⟨rfl, rfl⟩
  have k2 : (s == 2) = false := beq_eq_false_iff_ne.2 h2
  by_cases h3 : s = 3
  · subst h3
    rw [show nameB 3 = ⟨#[110, 111, 116, 114, 101, 97, 100, 121]⟩ from rfl]
    go_enter Tryz.func45, Tryz.ntmps45
    go_wp2
    go_ret
    exact ⟨rfl, rfl⟩
  have k3 : (s == 3) = false := beq_eq_false_iff_ne.2 h3
  by_cases h4 : s = 4
  · subst h4
    rw [show nameB 4 = ⟨#[115, 101, 114, 118, 105, 99, 101]⟩ from rfl]
    go_enter Tryz.func45, Tryz.ntmps45
    go_wp2
    go_ret
    exact ⟨rfl, rfl⟩
  have k4 : (s == 4) = false := beq_eq_false_iff_ne.2 h4
  by_cases h5 : s = 5
  · subst h5
    rw [show nameB 5 = ⟨#[104, 97, 108, 116, 101, 100]⟩ from rfl]
    go_enter Tryz.func45, Tryz.ntmps45
    go_wp2
    go_ret
    exact ⟨rfl, rfl⟩
  have k5 : (s == 5) = false := beq_eq_false_iff_ne.2 h5
  rw [show nameB s = ⟨#[]⟩ from by unfold nameB; rw [if_neg h0, if_neg h1, if_neg h2, if_neg h3, if_neg h4, if_neg h5]]
  go_enter Tryz.func45, Tryz.ntmps45
  go_wp2
  go_ret
  exact ⟨rfl, rfl⟩
theorem stateNil_long (k : Int) (vp : Value) (p : Oct) (u : Un) (vi : Value) (s : Int) (w : World) (hp : BytI w [] vp p) (hpl : p.length ≤ maxLen) (hu : u.info.length ≤ maxLen) (hi : BytI w [] vi u.info) (hn : 100 < p.length ∨ 100 < u.info.length) :
    Calls Tryz.prog 14 #[.agg #[.int .u8 k, vp], u.v vi, .int .u8 s] w fun e w' => e = .returned (.bool true) ∧ Below w.heap.size w w' := by
  obtain ⟨ap, cp, rfl, _⟩ := hp.shape
  obtain ⟨ai, ci, rfl, _⟩ := hi.shape
  unfold maxLen at hpl hu
  have HA := Lib.hid awake_c
  clear hp hi
  obtain ⟨bsn, fsn, bib, fib, kind, status, wide, info⟩ := u
  dsimp only at hu hn ⊢
  have B0 := Lib.hid (bl_alloc (bl_alloc (bl_refl w) (.cells #[.int .u8 k, .slice ap p.length cp] 29)) (.cells #[.int .u8 bsn, .int .u8 fsn, .bool bib, .bool fib, .int .u8 kind, .int .u8 status, .bool wide, .slice ai info.length ci] 31))
  have NO := Lib.hid ((Blk.new w #[.int .u8 k, .slice ap p.length cp] 29).alloc (.cells #[.int .u8 bsn, .int .u8 fsn, .bool bib, .bool fib, .int .u8 kind, .int .u8 status, .bool wide, .slice ai info.length ci] 31))
  have NU := Lib.hid (Blk.newAt (w := w.alloc (.cells #[.int .u8 k, .slice ap p.length cp] 29)) (n := w.heap.size + 1) (by simp) #[.int .u8 bsn, .int .u8 fsn, .bool bib, .bool fib, .int .u8 kind, .int .u8 status, .bool wide, .slice ai info.length ci] 31)
  by_cases h1 : 100 < p.length
  · have h1' : (100 : Int) < p.length := by omega
    clear hn
    go_enter Tryz.func14, Tryz.ntmps14
    go_wp2_with (first
      | ((with_reducible refine (HA.out _).mono ?_); rintro e w1 ⟨rfl, hb1⟩; (have NO1 := Lib.hid (NO.out.below hb1)); (have no1 := NO1.out.c); (have NU1 := Lib.hid (NU.out.below hb1)); (have nu1 := NU1.out.c); (have HB1 := Lib.hid (bl_then B0.out hb1)); clear hb1)
      | ((with_reducible refine (HA.out w1).mono ?_); rintro e w2 ⟨rfl, hb2⟩))
    go_ret
    exact ⟨rfl, bl_then HB1.out hb2⟩
  · have h1' : (p.length : Int) ≤ 100 := by omega
    have h2' : (100 : Int) < info.length := by omega
    clear hn
    go_enter Tryz.func14, Tryz.ntmps14
    go_wp2_with (first
      | ((with_reducible refine (HA.out _).mono ?_); rintro e w1 ⟨rfl, hb1⟩; (have NO1 := Lib.hid (NO.out.below hb1)); (have no1 := NO1.out.c); (have NU1 := Lib.hid (NU.out.below hb1)); (have nu1 := NU1.out.c); (have HB1 := Lib.hid (bl_then B0.out hb1)); clear hb1)
      | ((with_reducible refine (HA.out w1).mono ?_); rintro e w2 ⟨rfl, hb2⟩))
    go_ret
    exact ⟨rfl, bl_then HB1.out hb2⟩
theorem stateNil_walk (k : Int) (vp : Value) (p : Oct) (u : Un) (vi : Value) (s : Int) (w : World) (hk : 0 ≤ k ∧ k ≤ 255) (hp : BytI w [] vp p) (hpl : p.length ≤ maxLen) (hu : u.info.length ≤ maxLen) (hi : BytI w [] vi u.info) (p2 : 0 ≤ s) (q2 : s ≤ 255) :
    Calls Tryz.prog 14 #[.agg #[.int .u8 k, vp], u.v vi, .int .u8 s] w fun e w' => e = .returned (.bool true) ∧ Below w.heap.size w w' := by
  by_cases hn : 100 < p.length ∨ 100 < u.info.length
  · exact stateNil_long k vp p u vi s w hp hpl hu hi hn
  obtain ⟨ap, cp, rfl, _⟩ := hp.shape
  obtain ⟨ai, ci, rfl, _⟩ := hi.shape
  have HA := Lib.hid awake_c
  have h1' : (p.length : Int) ≤ 100 := by omega
  have h2' : (u.info.length : Int) ≤ 100 := by omega
  clear hp hi hn hpl hu
  have HH := Lib.hid (fun w => HearN_c w u (.slice ai u.info.length ci))
  have HO := Lib.hid (fun w => OrderN_c w k (.slice ap p.length cp))
  have HN := Lib.hid (fun w => Name_c w s)
  obtain ⟨bsn, fsn, bib, fib, kind, status, wide, info⟩ := u
  dsimp only at h2' ⊢
  have B0 := Lib.hid (bl_alloc (bl_alloc (bl_refl w) (.cells #[.int .u8 k, .slice ap p.length cp] 29)) (.cells #[.int .u8 bsn, .int .u8 fsn, .bool bib, .bool fib, .int .u8 kind, .int .u8 status, .bool wide, .slice ai info.length ci] 31))
  have NO := Lib.hid ((Blk.new w #[.int .u8 k, .slice ap p.length cp] 29).alloc (.cells #[.int .u8 bsn, .int .u8 fsn, .bool bib, .bool fib, .int .u8 kind, .int .u8 status, .bool wide, .slice ai info.length ci] 31))
  have NU := Lib.hid (Blk.newAt (w := w.alloc (.cells #[.int .u8 k, .slice ap p.length cp] 29)) (n := w.heap.size + 1) (by simp) #[.int .u8 bsn, .int .u8 fsn, .bool bib, .bool fib, .int .u8 kind, .int .u8 status, .bool wide, .slice ai info.length ci] 31)
  go_enter Tryz.func14, Tryz.ntmps14
  go_upto_region 8 with (first
    | ((with_reducible refine (HA.out _).mono ?_); rintro e w1 ⟨rfl, hb1⟩; (have NO1 := Lib.hid (NO.out.below hb1)); (have no1 := NO1.out.c); (have NU1 := Lib.hid (NU.out.below hb1)); (have nu1 := NU1.out.c); (have HB1 := Lib.hid (bl_then B0.out hb1)); clear hb1)
    | ((with_reducible refine (TickN_c _).mono ?_); rintro e w2 ⟨rfl, rfl⟩)
    | ((with_reducible refine (DamageN_c _).mono ?_); rintro e w2 ⟨rfl, rfl⟩)
    | ((with_reducible refine (HH.out _).mono ?_); rintro e w3 ⟨rfl, hb3⟩; (have NO3 := Lib.hid (NO1.out.below hb3)); (have HB3 := Lib.hid (bl_then HB1.out hb3)); clear hb3)
    | ((with_reducible refine (FailN_c _ _).mono ?_); rintro e w4 ⟨rfl, rfl⟩))
  have no3 := NO3.out.c
  have l3 := NO3.out.lt
  have n3 : w.heap.size ≠ w3.heap.size := Nat.ne_of_lt l3
  clear no1 nu1
  by_cases s0 : s = 0
  · subst s0
    have HN := Lib.hid (show ∀ w, Calls Tryz.prog 45 #[.int .u8 0] w fun e w' => e = .returned (.string ⟨#[111, 117, 116]⟩) ∧ w = w' from HN.out)
    go_wp2_with (first
      | ((with_reducible refine (HO.out _).mono ?_); rintro e w5 ⟨rfl, hb5⟩; (have HB5 := Lib.hid (bl_then (bl_alloc HB3.out _) hb5)))
      | ((with_reducible refine (ToldN_c _).mono ?_); rintro e w6 ⟨rfl, rfl⟩)
      | ((with_reducible refine (NextN_c _).mono ?_); rintro e w7 ⟨rfl, hb7⟩; (have hfd : (Instr.field 31 (Un.nil.v nil0) 4).run Tryz.prog w7 = .ok (.int .u8 0) w7 := run_fieldU4 Un.nil nil0 w7); (have HB7 := Lib.hid (bl_then HB5.out hb7)))
      | ((with_reducible refine (FailsN_c _).mono ?_); rintro e w8 ⟨rfl, rfl⟩)
      | ((with_reducible refine (WrongN_c _).mono ?_); rintro e w9 ⟨rfl, rfl⟩)
      | ((with_reducible refine (HN.out _).mono ?_); rintro e w10 ⟨rfl, rfl⟩))
    go_ret
    exact ⟨rfl, HB7.out⟩
  by_cases s1 : s = 1
  · subst s1
    have HN := Lib.hid (show ∀ w, Calls Tryz.prog 45 #[.int .u8 1] w fun e w' => e = .returned (.string ⟨#[97, 108, 105, 103, 110, 105, 110, 103]⟩) ∧ w = w' from HN.out)
    go_wp2_with (first
      | ((with_reducible refine (HO.out _).mono ?_); rintro e w5 ⟨rfl, hb5⟩; (have HB5 := Lib.hid (bl_then (bl_alloc HB3.out _) hb5)))
      | ((with_reducible refine (ToldN_c _).mono ?_); rintro e w6 ⟨rfl, rfl⟩)
      | ((with_reducible refine (NextN_c _).mono ?_); rintro e w7 ⟨rfl, hb7⟩; (have hfd : (Instr.field 31 (Un.nil.v nil0) 4).run Tryz.prog w7 = .ok (.int .u8 0) w7 := run_fieldU4 Un.nil nil0 w7); (have HB7 := Lib.hid (bl_then HB5.out hb7)))
      | ((with_reducible refine (FailsN_c _).mono ?_); rintro e w8 ⟨rfl, rfl⟩)
      | ((with_reducible refine (WrongN_c _).mono ?_); rintro e w9 ⟨rfl, rfl⟩)
      | ((with_reducible refine (HN.out _).mono ?_); rintro e w10 ⟨rfl, rfl⟩))
    go_ret
    exact ⟨rfl, HB7.out⟩
  by_cases s2 : s = 2
  · subst s2
    have HN := Lib.hid (show ∀ w, Calls Tryz.prog 45 #[.int .u8 2] w fun e w' => e = .returned (.string ⟨#[114, 101, 97, 100, 121]⟩) ∧ w = w' from HN.out)
    go_wp2_with (first
      | ((with_reducible refine (HO.out _).mono ?_); rintro e w5 ⟨rfl, hb5⟩; (have HB5 := Lib.hid (bl_then (bl_alloc HB3.out _) hb5)))
      | ((with_reducible refine (ToldN_c _).mono ?_); rintro e w6 ⟨rfl, rfl⟩)
      | ((with_reducible refine (NextN_c _).mono ?_); rintro e w7 ⟨rfl, hb7⟩; (have hfd : (Instr.field 31 (Un.nil.v nil0) 4).run Tryz.prog w7 = .ok (.int .u8 0) w7 := run_fieldU4 Un.nil nil0 w7); (have HB7 := Lib.hid (bl_then HB5.out hb7)))
      | ((with_reducible refine (FailsN_c _).mono ?_); rintro e w8 ⟨rfl, rfl⟩)
      | ((with_reducible refine (WrongN_c _).mono ?_); rintro e w9 ⟨rfl, rfl⟩)
      | ((with_reducible refine (HN.out _).mono ?_); rintro e w10 ⟨rfl, rfl⟩))
    go_ret
    exact ⟨rfl, HB7.out⟩
  by_cases s3 : s = 3
  · subst s3
    have HN := Lib.hid (show ∀ w, Calls Tryz.prog 45 #[.int .u8 3] w fun e w' => e = .returned (.string ⟨#[110, 111, 116, 114, 101, 97, 100, 121]⟩) ∧ w = w' from HN.out)
    go_wp2_with (first
      | ((with_reducible refine (HO.out _).mono ?_); rintro e w5 ⟨rfl, hb5⟩; (have HB5 := Lib.hid (bl_then (bl_alloc HB3.out _) hb5)))
      | ((with_reducible refine (ToldN_c _).mono ?_); rintro e w6 ⟨rfl, rfl⟩)
      | ((with_reducible refine (NextN_c _).mono ?_); rintro e w7 ⟨rfl, hb7⟩; (have hfd : (Instr.field 31 (Un.nil.v nil0) 4).run Tryz.prog w7 = .ok (.int .u8 0) w7 := run_fieldU4 Un.nil nil0 w7); (have HB7 := Lib.hid (bl_then HB5.out hb7)))
      | ((with_reducible refine (FailsN_c _).mono ?_); rintro e w8 ⟨rfl, rfl⟩)
      | ((with_reducible refine (WrongN_c _).mono ?_); rintro e w9 ⟨rfl, rfl⟩)
      | ((with_reducible refine (HN.out _).mono ?_); rintro e w10 ⟨rfl, rfl⟩))
    go_ret
    exact ⟨rfl, HB7.out⟩
  by_cases s4 : s = 4
  · subst s4
    have HN := Lib.hid (show ∀ w, Calls Tryz.prog 45 #[.int .u8 4] w fun e w' => e = .returned (.string ⟨#[115, 101, 114, 118, 105, 99, 101]⟩) ∧ w = w' from HN.out)
    go_wp2_with (first
      | ((with_reducible refine (HO.out _).mono ?_); rintro e w5 ⟨rfl, hb5⟩; (have HB5 := Lib.hid (bl_then (bl_alloc HB3.out _) hb5)))
      | ((with_reducible refine (ToldN_c _).mono ?_); rintro e w6 ⟨rfl, rfl⟩)
      | ((with_reducible refine (NextN_c _).mono ?_); rintro e w7 ⟨rfl, hb7⟩; (have hfd : (Instr.field 31 (Un.nil.v nil0) 4).run Tryz.prog w7 = .ok (.int .u8 0) w7 := run_fieldU4 Un.nil nil0 w7); (have HB7 := Lib.hid (bl_then HB5.out hb7)))
      | ((with_reducible refine (FailsN_c _).mono ?_); rintro e w8 ⟨rfl, rfl⟩)
      | ((with_reducible refine (WrongN_c _).mono ?_); rintro e w9 ⟨rfl, rfl⟩)
      | ((with_reducible refine (HN.out _).mono ?_); rintro e w10 ⟨rfl, rfl⟩))
    go_ret
    exact ⟨rfl, HB7.out⟩
  by_cases s5 : s = 5
  · subst s5
    have HN := Lib.hid (show ∀ w, Calls Tryz.prog 45 #[.int .u8 5] w fun e w' => e = .returned (.string ⟨#[104, 97, 108, 116, 101, 100]⟩) ∧ w = w' from HN.out)
    go_wp2_with (first
      | ((with_reducible refine (HO.out _).mono ?_); rintro e w5 ⟨rfl, hb5⟩; (have HB5 := Lib.hid (bl_then (bl_alloc HB3.out _) hb5)))
      | ((with_reducible refine (ToldN_c _).mono ?_); rintro e w6 ⟨rfl, rfl⟩)
      | ((with_reducible refine (NextN_c _).mono ?_); rintro e w7 ⟨rfl, hb7⟩; (have hfd : (Instr.field 31 (Un.nil.v nil0) 4).run Tryz.prog w7 = .ok (.int .u8 0) w7 := run_fieldU4 Un.nil nil0 w7); (have HB7 := Lib.hid (bl_then HB5.out hb7)))
      | ((with_reducible refine (FailsN_c _).mono ?_); rintro e w8 ⟨rfl, rfl⟩)
      | ((with_reducible refine (WrongN_c _).mono ?_); rintro e w9 ⟨rfl, rfl⟩)
      | ((with_reducible refine (HN.out _).mono ?_); rintro e w10 ⟨rfl, rfl⟩))
    go_ret
    exact ⟨rfl, HB7.out⟩
  have s6 : (6 : Int) ≤ s := by omega
  have HN := Lib.hid (show ∀ w, Calls Tryz.prog 45 #[.int .u8 s] w fun e w' => e = .returned (.string ⟨#[]⟩) ∧ w = w' from by have h := HN.out; rw [show nameB s = ⟨#[]⟩ from by unfold nameB; rw [if_neg s0, if_neg s1, if_neg s2, if_neg s3, if_neg s4, if_neg s5]] at h; exact h)
  go_wp2_with (first
    | ((with_reducible refine (HO.out _).mono ?_); rintro e w5 ⟨rfl, hb5⟩; (have HB5 := Lib.hid (bl_then (bl_alloc HB3.out _) hb5)))
    | ((with_reducible refine (ToldN_c _).mono ?_); rintro e w6 ⟨rfl, rfl⟩)
    | ((with_reducible refine (NextN_c _).mono ?_); rintro e w7 ⟨rfl, hb7⟩; (have hfd : (Instr.field 31 (Un.nil.v nil0) 4).run Tryz.prog w7 = .ok (.int .u8 0) w7 := run_fieldU4 Un.nil nil0 w7); (have HB7 := Lib.hid (bl_then HB5.out hb7)))
    | ((with_reducible refine (FailsN_c _).mono ?_); rintro e w8 ⟨rfl, rfl⟩)
    | ((with_reducible refine (WrongN_c _).mono ?_); rintro e w9 ⟨rfl, rfl⟩)
    | ((with_reducible refine (HN.out _).mono ?_); rintro e w10 ⟨rfl, rfl⟩))
  go_ret
  exact ⟨rfl, HB7.out⟩
end Go.Proofs.YtdffinnnjcgfcaaGreatK
