/- The walk of FetchBoth. -/
import Derived.Test.YtdffinnnjcgfcaaGreatFe7
import Derived.Test.YtdffinnnjcgfcaaGreatFe9
namespace Go.Proofs.YtdffinnnjcgfcaaGreatK
open Go Go.RowKit
set_option linter.unusedVariables false
set_option maxHeartbeats 8000000
set_option maxRecDepth 100000
theorem Sv.lens {x : St} {l : List Oct} {f t : Int} (h : Sv x l f t) : x.h.sent.length + x.h.next.length = l.length := by rw [← h.all, List.length_append]
theorem FetchBoth_c (cyc : Bool) (n m there : Int) (w : World) (hn : 0 ≤ n ∧ n ≤ 255) (hm : 0 ≤ m ∧ m ≤ 255) (ht : 0 ≤ there ∧ there ≤ 255) :
    Calls Tryz.prog 18 #[.bool cyc, .int .u8 n, .int .u8 m, .int .u8 there] w fun e w' => e = .returned (.bool true) ∧ Below w.heap.size w w' := by
  have HA := Lib.hid (fun w => awake18_c w)
  have HS := Lib.hid (fun w => serving18_c cyc n 11 0 0 w hn (by decide) (by decide) (by decide))
  have HU := Lib.hid (fun w => Usual_c cyc w)
  have HK := Lib.hid (fun w => Check_usual cyc w)
  have hmB := mB_Hold
  have hmC := mC_Hold
  go_enter Tryz.func18, Tryz.ntmps18
  go_upto_region 4 with (first
    | ((with_reducible refine (HA.out _).mono ?_); rintro e w1 ⟨rfl, hb1⟩; have HB1 := Lib.hid hb1; clear hb1)
    | ((with_reducible refine (HS.out _).mono ?_); rintro e w2 ⟨a, va, x, lx, f, tx, rfl, V0⟩))
  have f0 := V0.f0.1
  have f12 := V0.f0.2
  have len := V0.len
  obtain ⟨s, hs⟩ : ∃ s, x.h.sent.length = s := ⟨_, rfl⟩
  have sl := V0.s.len
  rw [hs] at sl
  obtain ⟨tk, htk⟩ : ∃ tk : Int, there % ((s : Int) + f + 1) = tk := ⟨_, rfl⟩
  have tk0 : 0 ≤ tk := by rw [← htk]; exact Int.emod_nonneg _ (by omega)
  have tk1 : tk ≤ 255 := by
    have := Int.emod_lt_of_pos there (show (0 : Int) < (s : Int) + f + 1 by omega)
    omega
  have hd : ((s : Int) + f + 1 == 0) = false := beq_eq_false_iff_ne.2 (by omega)
  have s12 : (s : Int) ≤ 12 := by omega
  have HS2 := Lib.hid (fun w => serving18_c cyc m 11 0 tk w hm (by decide) (by decide) ⟨tk0, tk1⟩)
  obtain ⟨bw, bh, vs, vn, c17, hwy, hho⟩ := V0.m.lk.hold
  obtain ⟨y9, hy9⟩ : ∃ y9, x.w = y9 := ⟨_, rfl⟩
  rw [hy9] at c17 hwy
  have hf1 := HFirst_c hho
  rw [V0.s.first] at hf1
  have hn1 := HSent_c hho
  rw [hs] at hn1
  have HF := Lib.hid hf1
  have HN := Lib.hid hn1
  have HW := Lib.hid hwy
  have W0 := Lib.hid V0
  clear V0 hwy hho hf1 hn1 hy9 hs
  cases y9
  all_goals
    simp only [Wy.v] at c17
    go_upto_region 7 with (first
      | ((with_reducible refine (BHold_c HW.out).mono ?_); rintro e w6 ⟨rfl, rfl⟩)
      | ((with_reducible refine (CHold_c HW.out).mono ?_); rintro e w6 ⟨rfl, rfl⟩)
      | ((with_reducible refine HF.out.mono ?_); rintro e w6 ⟨rfl, rfl⟩)
      | ((with_reducible refine HN.out.mono ?_); rintro e w6 ⟨rfl, rfl⟩)
      | ((with_reducible refine (HS2.out _).mono ?_); rintro e w3 ⟨b, vb, y, ly, g, ty, rfl, V1⟩))
    clear HW HF HN c17 HS HS2 HA
    have T0 := Two.of W0.out.m.lk V1.m.lk
    obtain ⟨p1, p2, p3, p4⟩ := W0.out.s.stop
    obtain ⟨q1, q2, q3, q4⟩ := V1.s.stop
    have g0 := V1.f0.1
    have len2 := V1.len
    have L1 : ∀ k, ((x.order 2 []).1.h.rest k).1.length ≤ 100000 := fun k => by
      have h1 := Ho.rest_len (x.order 2 []).1.h k
      rw [p3, W0.out.s.lens] at h1
      rw [p3]
      omega
    have L2 : ∀ k, ((y.order 2 []).1.h.rest k).1.length ≤ 100000 := fun k => by
      have h1 := Ho.rest_len (y.order 2 []).1.h k
      rw [q3, V1.s.lens] at h1
      rw [q3]
      omega
    have e127 : tx = 127 := by have := W0.out.t; simpa using this
    have ety := V1.t
    have ty0 : 0 ≤ ty := by omega
    have ty1 : ty ≤ 127 := by omega
    rw [e127] at p4
    have O1 := Lib.hid (T0.order0 2 (by decide))
    clear W0 V1 T0 p1 p3 q1 q3 ety g0 len2 e127
    generalize (x.order 2 []).1 = x1 at p2 p4 L1 O1
    have O2 := Lib.hid (fun (w4 : World) (T1 : Two w1 w4 a x1 (20000 + 1) b y 20000) => T1.symm.order0 2 (by decide))
    generalize (y.order 2 []).1 = y1 at q2 q4 L2 O2
    have P2 := Lib.hid p2
    have P4 := Lib.hid p4
    have Q2 := Lib.hid q2
    have Q4 := Lib.hid q4
    have HL1 := Lib.hid L1
    have HL2 := Lib.hid L2
    clear p2 p4 q2 q4 L1 L2
    go_upto_region 8 with (first
      | ((with_reducible refine O1.out.mono ?_); rintro e w4 ⟨rfl, T1⟩; have HO := Lib.hid (O2.out w4 T1); clear T1))
    go_upto_region 9 with (first
      | ((with_reducible refine HO.out.mono ?_); rintro e w5 ⟨rfl, T2⟩; have T := Lib.hid T2; clear T2))
    have LA := Lib.hid T.out.lk2
    have LB := Lib.hid T.out.lk
    have bn := BSNT_c LB.out Q2.out
    rw [Q4.out] at bn
    have BN := Lib.hid bn
    have MA := Lib.hid (Messages_c LA.out P2.out ty ty0 (by omega))
    have CH := Lib.hid (fun (w7 : World) (b7 : Below w5.heap.size w5 w7) => Change_c (w := w7) (LA.out.below b7) P2.out (LB.out.below b7) Q2.out (by rw [P4.out]; decide) (by rw [Q4.out]; omega))
    rw [P4.out, Q4.out] at CH
    have MB := Lib.hid (fun (w7 : World) (b7 : Below w5.heap.size w5 w7) => Messages_c (w := w7) (LB.out.below b7) Q2.out 127 (by decide) (by decide))
    have cS := LA.out.S
    rw [P2.out] at cS
    have e1 := Ho.rest_err x1.h ty
    have e2 := Ho.rest_err y1.h 127
    have l1 := HL1.out ty
    have l2 := HL2.out 127
    clear bn HL1 HL2 T O1 O2 HO
    generalize x1.h.rest ty = r1 at MA CH e1 l1
    generalize y1.h.rest 127 = r2 at MB CH e2 l2
    obtain ⟨k1, c1⟩ := r1
    obtain ⟨k2, c2⟩ := r2
    dsimp only at MA MB CH e1 e2 l1 l2
    rcases e1 with rfl | rfl <;> rcases e2 with rfl | rfl
    · have CJ := Lib.hid (fun (w7 : World) (b7 : Below w5.heap.size w5 w7) => (CH.out w7 b7).mono fun e w' ⟨b8, h8⟩ => And.intro b8 (by rw [if_pos ⟨rfl, rfl⟩] at h8; exact h8))
      clear CH
      go_wp2_with (first
        | ((with_reducible refine BN.out.mono ?_); rintro e w6 ⟨rfl, rfl⟩)
        | ((with_reducible refine MA.out.mono ?_); rintro e w7 ⟨v7, rfl, m7, b7, _⟩; have HC := Lib.hid (CJ.out w7 b7); have B7 := Lib.hid b7; have Ma := Lib.hid m7; clear m7 b7)
        | ((with_reducible refine HC.out.mono ?_); rintro e w8 ⟨b8, v1, v2, rfl, m1, m2⟩; have B8 := Lib.hid (bl_then B7.out b8); have HB := Lib.hid (MB.out w8 (bl_then B7.out b8)); have Mp := Lib.hid m1; have Mq := Lib.hid m2; have Ma8 := Lib.hid (Msgs.below Ma.out b8); clear b8 m1 m2)
        | ((with_reducible refine HB.out.mono ?_); rintro e w9 ⟨v9, rfl, m9, b9, _⟩; have B9 := Lib.hid (bl_then B8.out b9); have My := Lib.hid m9; have S1 := Lib.hid (SameAll_c (Msgs.below Mp.out b9) (Msgs.below Ma8.out b9) l1); have Mq9 := Lib.hid (Msgs.below Mq.out b9); clear m9 b9)
        | ((with_reducible refine S1.out.mono ?_); rintro e w10 ⟨rfl, b10⟩; have B10 := Lib.hid (bl_then B9.out b10); have S2 := Lib.hid (SameAll_c (Msgs.below Mq9.out b10) (Msgs.below My.out b10) l2); clear b10)
        | ((with_reducible refine S2.out.mono ?_); rintro e w11 ⟨rfl, b11⟩; have B11 := Lib.hid (bl_then B10.out b11); have cS11 := below_cell (bl_then B10.out b11) cS; clear b11)
        | ((with_reducible refine (HU.out _).mono ?_); rintro e w12 ⟨rfl, b12⟩; have B12 := Lib.hid (bl_then B11.out b12); clear b12)
        | ((with_reducible refine (HK.out _).mono ?_); rintro e w13 ⟨rfl, b13⟩; have B13 := Lib.hid (bl_then B12.out b13); clear b13))
      go_ret
      exact ⟨rfl, bl_then HB1.out (bl_then LA.out.v.bel B13.out)⟩
    all_goals
      have CJ := Lib.hid (fun (w7 : World) (b7 : Below w5.heap.size w5 w7) => (CH.out w7 b7).mono fun e w' ⟨b8, h8⟩ => And.intro b8 (by rw [if_neg (by decide)] at h8; exact h8))
      clear CH
      go_wp2_with (first
        | ((with_reducible refine BN.out.mono ?_); rintro e w6 ⟨rfl, rfl⟩)
        | ((with_reducible refine MA.out.mono ?_); rintro e w7 ⟨v7, rfl, m7, b7, _⟩; have HC := Lib.hid (CJ.out w7 b7); have B7 := Lib.hid b7; clear m7 b7)
        | ((with_reducible refine HC.out.mono ?_); rintro e w8 ⟨b8, rfl⟩; have B8 := Lib.hid (bl_then B7.out b8); have HB := Lib.hid (MB.out w8 (bl_then B7.out b8)); clear b8)
        | ((with_reducible refine HB.out.mono ?_); rintro e w9 ⟨v9, rfl, m9, b9, _⟩; have B9 := Lib.hid (bl_then B8.out b9); clear m9 b9))
      go_ret
      exact ⟨rfl, bl_then HB1.out (bl_then LA.out.v.bel B9.out)⟩
theorem FetchBoth_w (cyc : Bool) (n m there : Int) (w : World) (n0 : 0 ≤ n) (n1 : n ≤ 255) (m0 : 0 ≤ m) (m1 : m ≤ 255) (there0 : 0 ≤ there) (there1 : there ≤ 255) :
    Calls Tryz.prog 18 #[.bool cyc, .int .u8 n, .int .u8 m, .int .u8 there] w fun e w' => e = .returned (.bool true) ∧ Below w.heap.size w w' :=
  FetchBoth_c cyc n m there w ⟨n0, n1⟩ ⟨m0, m1⟩ ⟨there0, there1⟩
end Go.Proofs.YtdffinnnjcgfcaaGreatK
