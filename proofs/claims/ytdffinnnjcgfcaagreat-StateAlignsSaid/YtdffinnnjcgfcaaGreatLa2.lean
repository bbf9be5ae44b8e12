/- StateAligns, in an emergency: the walks, one a way. -/
import Derived.Test.YtdffinnnjcgfcaaGreatLal
namespace Go.Proofs.YtdffinnnjcgfcaaGreatK
open Go Go.RowKit
set_option linter.unusedVariables false
set_option maxHeartbeats 4000000
set_option maxRecDepth 100000
theorem al_true_0 (a0 : Bool) (a2 a3 : Int) (w : World) (p2 : 0 ≤ a2) (q2 : a2 ≤ 255) (p3 : 0 ≤ a3) (q3 : a3 ≤ 255) (hk' : a3 % 5 = 0) :
    Calls Tryz.prog 6 #[.bool a0, .bool true, .int .u8 a2, .int .u8 a3] w fun e w' => e = .returned (.bool true) ∧ Below w.heap.size w w' := by
  obtain ⟨n6, hn6⟩ : ∃ n : Nat, a2 % 60 = n := ⟨(a2 % 60).toNat, by omega⟩
  obtain ⟨n5, hn5⟩ : ∃ n : Nat, a2 % 50 = n := ⟨(a2 % 50).toNat, by omega⟩
  obtain ⟨n4, hn4⟩ : ∃ n : Nat, a2 % 40 = n := ⟨(a2 % 40).toNat, by omega⟩
  have l6 : n6 < 60 := by omega
  have l5 : n5 < 50 := by omega
  have l4 : n4 < 40 := by omega
  have HA := Lib.hid awake_c
  have HQ := Lib.hid (fun w => quick_c a0 w)
  have HL := Lib.hid link_c
  have HFL := Lib.hid fill_c
  have o0 := Lib.hid (Un.ok_lk (i := 0) (by decide) (by decide))
  have o1 := Lib.hid (Un.ok_lk (i := 1) (by decide) (by decide))
  have of := Lib.hid Un.ok_fl
  have E1 := Lib.hid (al1 a0 true l6)
  have E3 := Lib.hid (al3 a0 true l5)
  have F0 := Lib.hid (al0 a0 true)
  have F2 := Lib.hid (al2 a0 true)
  have F4 := Lib.hid (al4 a0 true)
  have F5 := Lib.hid (al5 a0 true)
  have F6 := Lib.hid (al6 a0 true)
  have F7 := Lib.hid (al7 a0 true l4)
  have EX := Lib.hid (show alX a0 true = (((born a0).order 3 []).1.order 1 []).1 from rfl)
  obtain ⟨xb, hxb⟩ : ∃ xb, (alB a0 true).ticks 4 = xb := ⟨_, rfl⟩
  have ec : ((alB a0 true).ticks 4).ticks 1 = alC a0 true := (St.ticks_add (alB a0 true) 4 1).symm
  have f4 : ((alB a0 true).ticks 4).S = 1 := F4.out
  rw [hxb] at ec f4
  have XB := Lib.hid hxb
  have EC := Lib.hid ec
  have F4 := Lib.hid f4
  clear ec f4 hxb
  go_enter Tryz.func6, Tryz.ntmps6
  go_wp2_with (first
    | ((with_reducible refine (HA.out _).mono ?_); rintro e w1 ⟨rfl, hb1⟩)
    | ((with_reducible refine (HQ.out _).mono ?_); rintro e w2 ⟨rfl, hb2⟩)
    | ((with_reducible refine (NewL_c a0 _).mono ?_); rintro e w3 ⟨b, rfl, V0⟩; have V := Lib.hid (V0.base (bl_then hb1 hb2)); clear V0)
    | ((with_reducible refine (V.out.order0 3 (by omega)).mono ?_); rintro e w4 ⟨rfl, V1, K1⟩; have V := Lib.hid V1; clear V1 K1)
    | ((with_reducible refine (V.out.order0 1 (by omega)).mono ?_); rintro e w5 ⟨rfl, V1, K1⟩; (rw [← EX.out] at V1); have V := Lib.hid (V1.below (bl_alloc (bl_refl w5) (.cells #[.int .i64 5, .int .i64 40, .int .i64 60, .int .i64 50, .int .i64 10, .int .i64 6, .int .i64 30, .int .i64 25] 35))); have N := Lib.hid (Blk.new w5 #[.int .i64 5, .int .i64 40, .int .i64 60, .int .i64 50, .int .i64 10, .int .i64 6, .int .i64 30, .int .i64 25] 35); have nc := N.out.c; clear V1 K1)
    | ((with_reducible refine (wait_k V.out 60 60 rfl (by omega) (by omega)).mono ?_); rintro e wx ⟨rfl, V1, K1⟩; have V := Lib.hid V1; have N := Lib.hid (K1.blk N.out (by decide)); have nc := N.out.c; clear V1 K1)
    | ((with_reducible refine V.out.told.mono ?_); rintro e wt ⟨vt, rfl, K2, V1, K1⟩; (have c6 := V1.v.S); dsimp only at c6; (rw [F0.out.1] at c6); (rw [F0.out.2] at K2); (obtain ⟨bl, off, cap, rfl, t0, t1, _⟩ := K2.one); (have VE := Lib.hid V1); clear V1 K2 K1))
  go_ret
  exact ⟨rfl, VE.out.v.bel⟩
theorem al_true_1 (a0 : Bool) (a2 a3 : Int) (w : World) (p2 : 0 ≤ a2) (q2 : a2 ≤ 255) (p3 : 0 ≤ a3) (q3 : a3 ≤ 255) (hk' : a3 % 5 = 1) :
    Calls Tryz.prog 6 #[.bool a0, .bool true, .int .u8 a2, .int .u8 a3] w fun e w' => e = .returned (.bool true) ∧ Below w.heap.size w w' := by
  obtain ⟨n6, hn6⟩ : ∃ n : Nat, a2 % 60 = n := ⟨(a2 % 60).toNat, by omega⟩
  obtain ⟨n5, hn5⟩ : ∃ n : Nat, a2 % 50 = n := ⟨(a2 % 50).toNat, by omega⟩
  obtain ⟨n4, hn4⟩ : ∃ n : Nat, a2 % 40 = n := ⟨(a2 % 40).toNat, by omega⟩
  have l6 : n6 < 60 := by omega
  have l5 : n5 < 50 := by omega
  have l4 : n4 < 40 := by omega
  have HA := Lib.hid awake_c
  have HQ := Lib.hid (fun w => quick_c a0 w)
  have HL := Lib.hid link_c
  have HFL := Lib.hid fill_c
  have o0 := Lib.hid (Un.ok_lk (i := 0) (by decide) (by decide))
  have o1 := Lib.hid (Un.ok_lk (i := 1) (by decide) (by decide))
  have of := Lib.hid Un.ok_fl
  have E1 := Lib.hid (al1 a0 true l6)
  have E3 := Lib.hid (al3 a0 true l5)
  have F0 := Lib.hid (al0 a0 true)
  have F2 := Lib.hid (al2 a0 true)
  have F4 := Lib.hid (al4 a0 true)
  have F5 := Lib.hid (al5 a0 true)
  have F6 := Lib.hid (al6 a0 true)
  have F7 := Lib.hid (al7 a0 true l4)
  have EX := Lib.hid (show alX a0 true = (((born a0).order 3 []).1.order 1 []).1 from rfl)
  obtain ⟨xb, hxb⟩ : ∃ xb, (alB a0 true).ticks 4 = xb := ⟨_, rfl⟩
  have ec : ((alB a0 true).ticks 4).ticks 1 = alC a0 true := (St.ticks_add (alB a0 true) 4 1).symm
  have f4 : ((alB a0 true).ticks 4).S = 1 := F4.out
  rw [hxb] at ec f4
  have XB := Lib.hid hxb
  have EC := Lib.hid ec
  have F4 := Lib.hid f4
  clear ec f4 hxb
  go_enter Tryz.func6, Tryz.ntmps6
  go_wp2_with (first
    | ((with_reducible refine (HA.out _).mono ?_); rintro e w1 ⟨rfl, hb1⟩)
    | ((with_reducible refine (HQ.out _).mono ?_); rintro e w2 ⟨rfl, hb2⟩)
    | ((with_reducible refine (NewL_c a0 _).mono ?_); rintro e w3 ⟨b, rfl, V0⟩; have V := Lib.hid (V0.base (bl_then hb1 hb2)); clear V0)
    | ((with_reducible refine (V.out.order0 3 (by omega)).mono ?_); rintro e w4 ⟨rfl, V1, K1⟩; have V := Lib.hid V1; clear V1 K1)
    | ((with_reducible refine (V.out.order0 1 (by omega)).mono ?_); rintro e w5 ⟨rfl, V1, K1⟩; (rw [← EX.out] at V1); have V := Lib.hid (V1.below (bl_alloc (bl_refl w5) (.cells #[.int .i64 5, .int .i64 40, .int .i64 60, .int .i64 50, .int .i64 10, .int .i64 6, .int .i64 30, .int .i64 25] 35))); have N := Lib.hid (Blk.new w5 #[.int .i64 5, .int .i64 40, .int .i64 60, .int .i64 50, .int .i64 10, .int .i64 6, .int .i64 30, .int .i64 25] 35); have nc := N.out.c; clear V1 K1)
    | ((with_reducible refine (wait_k V.out n6 n6 rfl (by omega) (by omega)).mono ?_); rintro e wx ⟨rfl, V1, K1⟩; have V := Lib.hid V1; have N := Lib.hid (K1.blk N.out (by decide)); have nc := N.out.c; clear V1 K1)
    | ((with_reducible refine (HL.out 0 _).mono ?_); rintro e wl ⟨rfl, hbl⟩; have V := Lib.hid (V.out.below hbl); have N := Lib.hid (N.out.below hbl); clear hbl)
    | ((with_reducible refine (V.out.hear0 (lk 0) (by omega) o0.out rfl).mono ?_); rintro e wx ⟨rfl, V1, K1⟩; (rw [E1.out] at V1); have V := Lib.hid V1; have N := Lib.hid (K1.blk N.out (by decide)); have nc := N.out.c; clear V1 K1)
    | ((with_reducible refine (wait_k V.out 50 50 rfl (by omega) (by omega)).mono ?_); rintro e wx ⟨rfl, V1, K1⟩; have V := Lib.hid V1; have N := Lib.hid (K1.blk N.out (by decide)); have nc := N.out.c; clear V1 K1)
    | ((with_reducible refine V.out.told.mono ?_); rintro e wt ⟨vt, rfl, K2, V1, K1⟩; (have c6 := V1.v.S); dsimp only at c6; (rw [F2.out.1] at c6); (rw [F2.out.2] at K2); (obtain ⟨bl, off, cap, rfl, t0, t1, _⟩ := K2.one); (have VE := Lib.hid V1); clear V1 K2 K1))
  go_ret
  exact ⟨rfl, VE.out.v.bel⟩
theorem al_true_2 (a0 : Bool) (a2 a3 : Int) (w : World) (p2 : 0 ≤ a2) (q2 : a2 ≤ 255) (p3 : 0 ≤ a3) (q3 : a3 ≤ 255) (hk' : a3 % 5 = 2) :
    Calls Tryz.prog 6 #[.bool a0, .bool true, .int .u8 a2, .int .u8 a3] w fun e w' => e = .returned (.bool true) ∧ Below w.heap.size w w' := by
  obtain ⟨n6, hn6⟩ : ∃ n : Nat, a2 % 60 = n := ⟨(a2 % 60).toNat, by omega⟩
  obtain ⟨n5, hn5⟩ : ∃ n : Nat, a2 % 50 = n := ⟨(a2 % 50).toNat, by omega⟩
  obtain ⟨n4, hn4⟩ : ∃ n : Nat, a2 % 40 = n := ⟨(a2 % 40).toNat, by omega⟩
  have l6 : n6 < 60 := by omega
  have l5 : n5 < 50 := by omega
  have l4 : n4 < 40 := by omega
  have HA := Lib.hid awake_c
  have HQ := Lib.hid (fun w => quick_c a0 w)
  have HL := Lib.hid link_c
  have HFL := Lib.hid fill_c
  have o0 := Lib.hid (Un.ok_lk (i := 0) (by decide) (by decide))
  have o1 := Lib.hid (Un.ok_lk (i := 1) (by decide) (by decide))
  have of := Lib.hid Un.ok_fl
  have E1 := Lib.hid (al1 a0 true l6)
  have E3 := Lib.hid (al3 a0 true l5)
  have F0 := Lib.hid (al0 a0 true)
  have F2 := Lib.hid (al2 a0 true)
  have F4 := Lib.hid (al4 a0 true)
  have F5 := Lib.hid (al5 a0 true)
  have F6 := Lib.hid (al6 a0 true)
  have F7 := Lib.hid (al7 a0 true l4)
  have EX := Lib.hid (show alX a0 true = (((born a0).order 3 []).1.order 1 []).1 from rfl)
  obtain ⟨xb, hxb⟩ : ∃ xb, (alB a0 true).ticks 4 = xb := ⟨_, rfl⟩
  have ec : ((alB a0 true).ticks 4).ticks 1 = alC a0 true := (St.ticks_add (alB a0 true) 4 1).symm
  have f4 : ((alB a0 true).ticks 4).S = 1 := F4.out
  rw [hxb] at ec f4
  have XB := Lib.hid hxb
  have EC := Lib.hid ec
  have F4 := Lib.hid f4
  clear ec f4 hxb
  go_enter Tryz.func6, Tryz.ntmps6
  go_wp2_with (first
    | ((with_reducible refine (HA.out _).mono ?_); rintro e w1 ⟨rfl, hb1⟩)
    | ((with_reducible refine (HQ.out _).mono ?_); rintro e w2 ⟨rfl, hb2⟩)
    | ((with_reducible refine (NewL_c a0 _).mono ?_); rintro e w3 ⟨b, rfl, V0⟩; have V := Lib.hid (V0.base (bl_then hb1 hb2)); clear V0)
    | ((with_reducible refine (V.out.order0 3 (by omega)).mono ?_); rintro e w4 ⟨rfl, V1, K1⟩; have V := Lib.hid V1; clear V1 K1)
    | ((with_reducible refine (V.out.order0 1 (by omega)).mono ?_); rintro e w5 ⟨rfl, V1, K1⟩; (rw [← EX.out] at V1); have V := Lib.hid (V1.below (bl_alloc (bl_refl w5) (.cells #[.int .i64 5, .int .i64 40, .int .i64 60, .int .i64 50, .int .i64 10, .int .i64 6, .int .i64 30, .int .i64 25] 35))); have N := Lib.hid (Blk.new w5 #[.int .i64 5, .int .i64 40, .int .i64 60, .int .i64 50, .int .i64 10, .int .i64 6, .int .i64 30, .int .i64 25] 35); have nc := N.out.c; clear V1 K1)
    | ((with_reducible refine (wait_k V.out n6 n6 rfl (by omega) (by omega)).mono ?_); rintro e wx ⟨rfl, V1, K1⟩; have V := Lib.hid V1; have N := Lib.hid (K1.blk N.out (by decide)); have nc := N.out.c; clear V1 K1)
    | ((with_reducible refine (HL.out 0 _).mono ?_); rintro e wl ⟨rfl, hbl⟩; have V := Lib.hid (V.out.below hbl); have N := Lib.hid (N.out.below hbl); clear hbl)
    | ((with_reducible refine (V.out.hear0 (lk 0) (by omega) o0.out rfl).mono ?_); rintro e wx ⟨rfl, V1, K1⟩; (rw [E1.out] at V1); have V := Lib.hid V1; have N := Lib.hid (K1.blk N.out (by decide)); have nc := N.out.c; clear V1 K1)
    | ((with_reducible refine (wait_k V.out n5 n5 rfl (by omega) (by omega)).mono ?_); rintro e wx ⟨rfl, V1, K1⟩; have V := Lib.hid V1; have N := Lib.hid (K1.blk N.out (by decide)); have nc := N.out.c; clear V1 K1)
    | ((with_reducible refine (HL.out 1 _).mono ?_); rintro e wl ⟨rfl, hbl⟩; have V := Lib.hid (V.out.below hbl); have N := Lib.hid (N.out.below hbl); clear hbl)
    | ((with_reducible refine (V.out.hear0 (lk 1) (by omega) o1.out rfl).mono ?_); rintro e wx ⟨rfl, V1, K1⟩; (rw [E3.out] at V1); have V := Lib.hid V1; have N := Lib.hid (K1.blk N.out (by decide)); have nc := N.out.c; clear V1 K1)
    | ((with_reducible refine (wait_k V.out 4 4 rfl (by omega) (by omega)).mono ?_); rintro e wx ⟨rfl, V1, K1⟩; (rw [XB.out] at V1); (have cS := V1.S); (rw [F4.out] at cS); have V := Lib.hid V1; have N := Lib.hid (K1.blk N.out (by decide)); have nc := N.out.c; clear V1 K1)
    | ((with_reducible refine (wait_k V.out 1 1 rfl (by omega) (by omega)).mono ?_); rintro e wx ⟨rfl, V1, K1⟩; (rw [EC.out] at V1); (have cS2 := V1.S); (rw [F5.out] at cS2); have V := Lib.hid V1; have N := Lib.hid (K1.blk N.out (by decide)); have nc := N.out.c; clear V1 K1)
    | ((with_reducible refine (wait_k V.out 40 40 rfl (by omega) (by omega)).mono ?_); rintro e wx ⟨rfl, V1, K1⟩; have V := Lib.hid V1; have N := Lib.hid (K1.blk N.out (by decide)); have nc := N.out.c; clear V1 K1)
    | ((with_reducible refine V.out.told.mono ?_); rintro e wt ⟨vt, rfl, K2, V1, K1⟩; (have c6 := V1.v.S); dsimp only at c6; (rw [F6.out.1] at c6); (rw [F6.out.2] at K2); (obtain ⟨bl, off, cap, rfl, t0, t1, _⟩ := K2.one); (have VE := Lib.hid V1); clear V1 K2 K1))
  go_ret
  exact ⟨rfl, VE.out.v.bel⟩
theorem al_true_3 (a0 : Bool) (a2 a3 : Int) (w : World) (p2 : 0 ≤ a2) (q2 : a2 ≤ 255) (p3 : 0 ≤ a3) (q3 : a3 ≤ 255) (hk' : a3 % 5 = 3) :
    Calls Tryz.prog 6 #[.bool a0, .bool true, .int .u8 a2, .int .u8 a3] w fun e w' => e = .returned (.bool true) ∧ Below w.heap.size w w' := by
  obtain ⟨n6, hn6⟩ : ∃ n : Nat, a2 % 60 = n := ⟨(a2 % 60).toNat, by omega⟩
  obtain ⟨n5, hn5⟩ : ∃ n : Nat, a2 % 50 = n := ⟨(a2 % 50).toNat, by omega⟩
  obtain ⟨n4, hn4⟩ : ∃ n : Nat, a2 % 40 = n := ⟨(a2 % 40).toNat, by omega⟩
  have l6 : n6 < 60 := by omega
  have l5 : n5 < 50 := by omega
  have l4 : n4 < 40 := by omega
  have HA := Lib.hid awake_c
  have HQ := Lib.hid (fun w => quick_c a0 w)
  have HL := Lib.hid link_c
  have HFL := Lib.hid fill_c
  have o0 := Lib.hid (Un.ok_lk (i := 0) (by decide) (by decide))
  have o1 := Lib.hid (Un.ok_lk (i := 1) (by decide) (by decide))
  have of := Lib.hid Un.ok_fl
  have E1 := Lib.hid (al1 a0 true l6)
  have E3 := Lib.hid (al3 a0 true l5)
  have F0 := Lib.hid (al0 a0 true)
  have F2 := Lib.hid (al2 a0 true)
  have F4 := Lib.hid (al4 a0 true)
  have F5 := Lib.hid (al5 a0 true)
  have F6 := Lib.hid (al6 a0 true)
  have F7 := Lib.hid (al7 a0 true l4)
  have EX := Lib.hid (show alX a0 true = (((born a0).order 3 []).1.order 1 []).1 from rfl)
  obtain ⟨xb, hxb⟩ : ∃ xb, (alB a0 true).ticks 4 = xb := ⟨_, rfl⟩
  have ec : ((alB a0 true).ticks 4).ticks 1 = alC a0 true := (St.ticks_add (alB a0 true) 4 1).symm
  have f4 : ((alB a0 true).ticks 4).S = 1 := F4.out
  rw [hxb] at ec f4
  have XB := Lib.hid hxb
  have EC := Lib.hid ec
  have F4 := Lib.hid f4
  clear ec f4 hxb
  go_enter Tryz.func6, Tryz.ntmps6
  go_wp2_with (first
    | ((with_reducible refine (HA.out _).mono ?_); rintro e w1 ⟨rfl, hb1⟩)
    | ((with_reducible refine (HQ.out _).mono ?_); rintro e w2 ⟨rfl, hb2⟩)
    | ((with_reducible refine (NewL_c a0 _).mono ?_); rintro e w3 ⟨b, rfl, V0⟩; have V := Lib.hid (V0.base (bl_then hb1 hb2)); clear V0)
    | ((with_reducible refine (V.out.order0 3 (by omega)).mono ?_); rintro e w4 ⟨rfl, V1, K1⟩; have V := Lib.hid V1; clear V1 K1)
    | ((with_reducible refine (V.out.order0 1 (by omega)).mono ?_); rintro e w5 ⟨rfl, V1, K1⟩; (rw [← EX.out] at V1); have V := Lib.hid (V1.below (bl_alloc (bl_refl w5) (.cells #[.int .i64 5, .int .i64 40, .int .i64 60, .int .i64 50, .int .i64 10, .int .i64 6, .int .i64 30, .int .i64 25] 35))); have N := Lib.hid (Blk.new w5 #[.int .i64 5, .int .i64 40, .int .i64 60, .int .i64 50, .int .i64 10, .int .i64 6, .int .i64 30, .int .i64 25] 35); have nc := N.out.c; clear V1 K1)
    | ((with_reducible refine (wait_k V.out n6 n6 rfl (by omega) (by omega)).mono ?_); rintro e wx ⟨rfl, V1, K1⟩; have V := Lib.hid V1; have N := Lib.hid (K1.blk N.out (by decide)); have nc := N.out.c; clear V1 K1)
    | ((with_reducible refine (HL.out 0 _).mono ?_); rintro e wl ⟨rfl, hbl⟩; have V := Lib.hid (V.out.below hbl); have N := Lib.hid (N.out.below hbl); clear hbl)
    | ((with_reducible refine (V.out.hear0 (lk 0) (by omega) o0.out rfl).mono ?_); rintro e wx ⟨rfl, V1, K1⟩; (rw [E1.out] at V1); have V := Lib.hid V1; have N := Lib.hid (K1.blk N.out (by decide)); have nc := N.out.c; clear V1 K1)
    | ((with_reducible refine (wait_k V.out n5 n5 rfl (by omega) (by omega)).mono ?_); rintro e wx ⟨rfl, V1, K1⟩; have V := Lib.hid V1; have N := Lib.hid (K1.blk N.out (by decide)); have nc := N.out.c; clear V1 K1)
    | ((with_reducible refine (HL.out 1 _).mono ?_); rintro e wl ⟨rfl, hbl⟩; have V := Lib.hid (V.out.below hbl); have N := Lib.hid (N.out.below hbl); clear hbl)
    | ((with_reducible refine (V.out.hear0 (lk 1) (by omega) o1.out rfl).mono ?_); rintro e wx ⟨rfl, V1, K1⟩; (rw [E3.out] at V1); have V := Lib.hid V1; have N := Lib.hid (K1.blk N.out (by decide)); have nc := N.out.c; clear V1 K1)
    | ((with_reducible refine (wait_k V.out 4 4 rfl (by omega) (by omega)).mono ?_); rintro e wx ⟨rfl, V1, K1⟩; (rw [XB.out] at V1); (have cS := V1.S); (rw [F4.out] at cS); have V := Lib.hid V1; have N := Lib.hid (K1.blk N.out (by decide)); have nc := N.out.c; clear V1 K1)
    | ((with_reducible refine (wait_k V.out 1 1 rfl (by omega) (by omega)).mono ?_); rintro e wx ⟨rfl, V1, K1⟩; (rw [EC.out] at V1); (have cS2 := V1.S); (rw [F5.out] at cS2); have V := Lib.hid V1; have N := Lib.hid (K1.blk N.out (by decide)); have nc := N.out.c; clear V1 K1)
    | ((with_reducible refine (wait_k V.out n4 n4 rfl (by omega) (by omega)).mono ?_); rintro e wx ⟨rfl, V1, K1⟩; have V := Lib.hid V1; have N := Lib.hid (K1.blk N.out (by decide)); have nc := N.out.c; clear V1 K1)
    | ((with_reducible refine (HFL.out _).mono ?_); rintro e wl ⟨rfl, hbl⟩; have V := Lib.hid (V.out.below hbl); clear hbl)
    | ((with_reducible refine (V.out.hear0 fl (by omega) of.out rfl).mono ?_); rintro e wx ⟨rfl, V1, K1⟩; have V := Lib.hid V1; clear V1 K1)
    | ((with_reducible refine V.out.told.mono ?_); rintro e wt ⟨vt, rfl, K2, V1, K1⟩; (have c6 := V1.v.S); dsimp only at c6; (rw [F7.out.1] at c6); (rw [F7.out.2.1] at K2); (obtain ⟨bl, off, cap, rfl, t0, t1, _⟩ := K2.one); (obtain ⟨bc, c14, hck⟩ := V1.ck); dsimp only at hck; (have ho := On_c hck 1 (by decide) (by decide)); (rw [F7.out.2.2] at ho); (have HO := Lib.hid ho); (have VE := Lib.hid V1); clear V1 K2 K1 ho hck)
    | ((with_reducible refine HO.out.mono ?_); rintro e wo ⟨rfl, rfl⟩))
  go_ret
  exact ⟨rfl, VE.out.v.bel⟩
theorem al_true_4 (a0 : Bool) (a2 a3 : Int) (w : World) (p2 : 0 ≤ a2) (q2 : a2 ≤ 255) (p3 : 0 ≤ a3) (q3 : a3 ≤ 255) (hk' : a3 % 5 = 4) :
    Calls Tryz.prog 6 #[.bool a0, .bool true, .int .u8 a2, .int .u8 a3] w fun e w' => e = .returned (.bool true) ∧ Below w.heap.size w w' := by
  obtain ⟨n6, hn6⟩ : ∃ n : Nat, a2 % 60 = n := ⟨(a2 % 60).toNat, by omega⟩
  obtain ⟨n5, hn5⟩ : ∃ n : Nat, a2 % 50 = n := ⟨(a2 % 50).toNat, by omega⟩
  obtain ⟨n4, hn4⟩ : ∃ n : Nat, a2 % 40 = n := ⟨(a2 % 40).toNat, by omega⟩
  have l6 : n6 < 60 := by omega
  have l5 : n5 < 50 := by omega
  have l4 : n4 < 40 := by omega
  have HA := Lib.hid awake_c
  have HQ := Lib.hid (fun w => quick_c a0 w)
  have HL := Lib.hid link_c
  have HFL := Lib.hid fill_c
  have o0 := Lib.hid (Un.ok_lk (i := 0) (by decide) (by decide))
  have o1 := Lib.hid (Un.ok_lk (i := 1) (by decide) (by decide))
  have of := Lib.hid Un.ok_fl
  have E1 := Lib.hid (al1 a0 true l6)
  have E3 := Lib.hid (al3 a0 true l5)
  have F0 := Lib.hid (al0 a0 true)
  have F2 := Lib.hid (al2 a0 true)
  have F4 := Lib.hid (al4 a0 true)
  have F5 := Lib.hid (al5 a0 true)
  have F6 := Lib.hid (al6 a0 true)
  have F7 := Lib.hid (al7 a0 true l4)
  have EX := Lib.hid (show alX a0 true = (((born a0).order 3 []).1.order 1 []).1 from rfl)
  obtain ⟨xb, hxb⟩ : ∃ xb, (alB a0 true).ticks 4 = xb := ⟨_, rfl⟩
  have ec : ((alB a0 true).ticks 4).ticks 1 = alC a0 true := (St.ticks_add (alB a0 true) 4 1).symm
  have f4 : ((alB a0 true).ticks 4).S = 1 := F4.out
  rw [hxb] at ec f4
  have XB := Lib.hid hxb
  have EC := Lib.hid ec
  have F4 := Lib.hid f4
  clear ec f4 hxb
  go_enter Tryz.func6, Tryz.ntmps6
  go_wp2_with (first
    | ((with_reducible refine (HA.out _).mono ?_); rintro e w1 ⟨rfl, hb1⟩)
    | ((with_reducible refine (HQ.out _).mono ?_); rintro e w2 ⟨rfl, hb2⟩)
    | ((with_reducible refine (NewL_c a0 _).mono ?_); rintro e w3 ⟨b, rfl, V0⟩; have V := Lib.hid (V0.base (bl_then hb1 hb2)); clear V0)
    | ((with_reducible refine (V.out.order0 3 (by omega)).mono ?_); rintro e w4 ⟨rfl, V1, K1⟩; have V := Lib.hid V1; clear V1 K1)
    | ((with_reducible refine (V.out.order0 1 (by omega)).mono ?_); rintro e w5 ⟨rfl, V1, K1⟩; (rw [← EX.out] at V1); have V := Lib.hid (V1.below (bl_alloc (bl_refl w5) (.cells #[.int .i64 5, .int .i64 40, .int .i64 60, .int .i64 50, .int .i64 10, .int .i64 6, .int .i64 30, .int .i64 25] 35))); have N := Lib.hid (Blk.new w5 #[.int .i64 5, .int .i64 40, .int .i64 60, .int .i64 50, .int .i64 10, .int .i64 6, .int .i64 30, .int .i64 25] 35); have nc := N.out.c; clear V1 K1)
    | ((with_reducible refine (wait_k V.out n6 n6 rfl (by omega) (by omega)).mono ?_); rintro e wx ⟨rfl, V1, K1⟩; have V := Lib.hid V1; have N := Lib.hid (K1.blk N.out (by decide)); have nc := N.out.c; clear V1 K1)
    | ((with_reducible refine (HL.out 0 _).mono ?_); rintro e wl ⟨rfl, hbl⟩; have V := Lib.hid (V.out.below hbl); have N := Lib.hid (N.out.below hbl); clear hbl)
    | ((with_reducible refine (V.out.hear0 (lk 0) (by omega) o0.out rfl).mono ?_); rintro e wx ⟨rfl, V1, K1⟩; (rw [E1.out] at V1); have V := Lib.hid V1; have N := Lib.hid (K1.blk N.out (by decide)); have nc := N.out.c; clear V1 K1)
    | ((with_reducible refine (wait_k V.out n5 n5 rfl (by omega) (by omega)).mono ?_); rintro e wx ⟨rfl, V1, K1⟩; have V := Lib.hid V1; have N := Lib.hid (K1.blk N.out (by decide)); have nc := N.out.c; clear V1 K1)
    | ((with_reducible refine (HL.out 1 _).mono ?_); rintro e wl ⟨rfl, hbl⟩; have V := Lib.hid (V.out.below hbl); have N := Lib.hid (N.out.below hbl); clear hbl)
    | ((with_reducible refine (V.out.hear0 (lk 1) (by omega) o1.out rfl).mono ?_); rintro e wx ⟨rfl, V1, K1⟩; (rw [E3.out] at V1); have V := Lib.hid V1; have N := Lib.hid (K1.blk N.out (by decide)); have nc := N.out.c; clear V1 K1)
    | ((with_reducible refine (wait_k V.out 4 4 rfl (by omega) (by omega)).mono ?_); rintro e wx ⟨rfl, V1, K1⟩; (rw [XB.out] at V1); (have cS := V1.S); (rw [F4.out] at cS); have V := Lib.hid V1; have N := Lib.hid (K1.blk N.out (by decide)); have nc := N.out.c; clear V1 K1)
    | ((with_reducible refine (wait_k V.out 1 1 rfl (by omega) (by omega)).mono ?_); rintro e wx ⟨rfl, V1, K1⟩; (rw [EC.out] at V1); (have cS2 := V1.S); (rw [F5.out] at cS2); have V := Lib.hid V1; have N := Lib.hid (K1.blk N.out (by decide)); have nc := N.out.c; clear V1 K1)
    | ((with_reducible refine (wait_k V.out n4 n4 rfl (by omega) (by omega)).mono ?_); rintro e wx ⟨rfl, V1, K1⟩; have V := Lib.hid V1; have N := Lib.hid (K1.blk N.out (by decide)); have nc := N.out.c; clear V1 K1)
    | ((with_reducible refine (HFL.out _).mono ?_); rintro e wl ⟨rfl, hbl⟩; have V := Lib.hid (V.out.below hbl); clear hbl)
    | ((with_reducible refine (V.out.hear0 fl (by omega) of.out rfl).mono ?_); rintro e wx ⟨rfl, V1, K1⟩; have V := Lib.hid V1; clear V1 K1)
    | ((with_reducible refine V.out.told.mono ?_); rintro e wt ⟨vt, rfl, K2, V1, K1⟩; (have c6 := V1.v.S); dsimp only at c6; (rw [F7.out.1] at c6); (rw [F7.out.2.1] at K2); (obtain ⟨bl, off, cap, rfl, t0, t1, _⟩ := K2.one); (obtain ⟨bc, c14, hck⟩ := V1.ck); dsimp only at hck; (have ho := On_c hck 1 (by decide) (by decide)); (rw [F7.out.2.2] at ho); (have HO := Lib.hid ho); (have VE := Lib.hid V1); clear V1 K2 K1 ho hck)
    | ((with_reducible refine HO.out.mono ?_); rintro e wo ⟨rfl, rfl⟩))
  go_ret
  exact ⟨rfl, VE.out.v.bel⟩
end Go.Proofs.YtdffinnnjcgfcaaGreatK
