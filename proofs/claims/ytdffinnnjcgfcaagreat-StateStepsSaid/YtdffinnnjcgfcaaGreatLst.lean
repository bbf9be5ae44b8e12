/- StateSteps: which states follow which. -/
import Derived.Test.YtdffinnnjcgfcaaGreatRob
import Derived.Test.YtdffinnnjcgfcaaGreatLac
namespace Go.Proofs.YtdffinnnjcgfcaaGreatK
open Go Go.RowKit
set_option linter.unusedVariables false
set_option maxHeartbeats 8000000
set_option maxRecDepth 100000
theorem ToldV.open {w : World} {v : Value} {l : List To} (h : ToldV w v l) : ∃ a cap, v = .slice a l.length cap ∧ (l = [] ∨ ∃ bl off, a = some ⟨bl, off, none⟩ ∧ ∀ (j : Nat) (t : To), l[j]? = some t → w.cell? ⟨bl, off + j * 3, none⟩ = some (.int .u8 t.kind) ∧ w.cell? ⟨bl, off + j * 3 + 1, none⟩ = some (.int .u8 t.why)) := by
  obtain ⟨⟨a, cap, rfl⟩, h2⟩ := h
  refine ⟨a, cap, rfl, ?_⟩
  cases l with
  | nil => exact .inl rfl
  | cons t0 r =>
    obtain ⟨bl, off, cap', e, _⟩ := h2 0 t0 rfl
    simp only [Value.slice.injEq, true_and] at e
    refine .inr ⟨bl, off, e.1, fun j t hj => ?_⟩
    obtain ⟨bl', off', cap'', e', h3, h4, _⟩ := h2 j t hj
    simp only [Value.slice.injEq, true_and] at e'
    have := e.1.symm.trans e'.1
    simp only [Option.some.injEq, Addr.mk.injEq, and_true] at this
    rw [this.1, this.2, show off' + j * 3 = off' + 3 * j by omega]
    exact ⟨h3, h4⟩
theorem stateSteps_long (a0 : Bool) (v : Value) (n : Nat) (C : Nat → Ac) (I : Nat → Value) (w : World) (hv : ActsV w v n C I) (hn : 120 < n) :
    Calls Tryz.prog 13 #[.bool a0, v] w fun e w' => e = .returned (.bool true) ∧ Below w.heap.size w w' := by
  obtain ⟨a, cap, rfl, hcap, hl, _⟩ := hv.open
  unfold maxLen at hl
  have HA := Lib.hid awake_c
  clear hv
  go_enter Tryz.func13, Tryz.ntmps13
  go_wp2_with (first
    | ((with_reducible refine (HA.out w).mono ?_); rintro e w1 ⟨rfl, hb1⟩)
    | ((with_reducible refine (HA.out w1).mono ?_); rintro e w2 ⟨rfl, hb2⟩))
  go_ret
  exact ⟨rfl, bl_then hb1 hb2⟩
theorem stateSteps_walk (a0 : Bool) (v : Value) (n : Nat) (C : Nat → Ac) (I : Nat → Value) (w : World) (hv : ActsV w v n C I) :
    Calls Tryz.prog 13 #[.bool a0, v] w fun e w' => e = .returned (.bool true) ∧ Below w.heap.size w w' := by
  by_cases hn : 120 < n
  · exact stateSteps_long a0 v n C I w hv hn
  obtain ⟨a, cap, rfl, hcap, _, ho⟩ := hv.open
  have hn' : (n : Int) ≤ 120 := by omega
  have HO := Lib.hid ho
  have HA := Lib.hid awake_c
  have HQ := Lib.hid (fun w => quick_c a0 w)
  clear ho hv
  go_enter Tryz.func13, Tryz.ntmps13
  go_wp2_with (first
    | ((with_reducible refine (HA.out _).mono ?_); rintro e w1 ⟨rfl, hb1⟩)
    | ((with_reducible refine (HQ.out _).mono ?_); rintro e w2 ⟨rfl, hb2⟩)
    | ((with_reducible refine (NewL_c a0 _).mono ?_); rintro e w3 ⟨b, rfl, V0⟩; have V := Lib.hid (V0.base (bl_then hb1 hb2)); clear V0))
  go_loopw [6, 7, 8] (fun sv ou i wr => ∃ k : Nat, k ≤ n ∧ i = .int .i64 k ∧ ∃ x sn, Lk w wr b x (200 * k) ∧ x.told = [] ∧ sv = .int .i64 sn ∧ 0 ≤ sn ∧ sn ≤ k ∧ ou = .int .i64 x.fails ∧ x.fails ≤ k) (fun _ _ i _ => n - (intOf i).toNat)
  case atStart => exact ⟨0, by omega, rfl, _, 0, V.out.to rfl (by omega), by cases a0 <;> rfl, rfl, by omega, by omega, by cases a0 <;> rfl, by cases a0 <;> decide⟩
  case round =>
    obtain ⟨k, hkk, rfl, x, sn, V9, T9, rfl, sn0, sn1, rfl, fn1⟩ := hrel
    have V := Lib.hid V9
    have T := Lib.hid T9
    clear V9 T9
    by_cases hlt : k < n
    · have hlt' : (k : Int) < n := by omega
      rcases HO.out with h0 | ⟨bs, off, rfl, hA⟩
      · omega
      obtain ⟨⟨hk, ha, hu, hi⟩, hcell⟩ := hA k hlt
      generalize C k = c at hk ha hu hi hcell
      generalize I k = vi at hi hcell
      obtain ⟨ai, ci, rfl, _⟩ := hi.shape
      have hc2 := hcell.below V.out.v.bel
      have il := hu.info
      unfold maxLen at il
      have HC := Lib.hid hc2
      have hi27 := hc2.d9
      have HCO := Lib.hid (fun (h : c.u.info.length ≤ 50) => (⟨hk, ha, hu.ok (by omega)⟩ : c.ok))
      have HI := Lib.hid hi
      clear hcell hA hc2 hk ha hu hi
      by_cases h50 : 50 < c.u.info.length
      · have h50' : (50 : Int) < c.u.info.length := by omega
        go_wp2
        go_ret
        exact ⟨rfl, V.out.v.bel⟩
      have h50' : (c.u.info.length : Int) ≤ 50 := by omega
      have DO := Lib.hid (do_c V.out (by omega) (by omega) (HCO.out (by omega)) HI.out)
      have cS := V.out.S
      have f0 : 0 ≤ x.fails := V.out.f.2.1
      obtain ⟨fz, hfz⟩ : ∃ fz, x.fails = fz := ⟨_, rfl⟩
      obtain ⟨was, hwas⟩ : ∃ was, x.S = was := ⟨_, rfl⟩
      have w05 := V.out.k.S
      rw [hwas] at cS w05
      rw [hfz] at f0 fn1
      rw [hfz]
      have HWAS := Lib.hid hwas
      have HFZ := Lib.hid hfz
      clear hwas hfz
      go_upto_region 12 with fail
      clear hi27 cS
      obtain ⟨hv0, hv1, hv2, hv3, hv4, hv5, hv6, hv7, hv8, hv9, _⟩ := HC.out
      go_upto_region 13 with (first
        | ((with_reducible refine DO.out.mono ?_); rintro e w4 ⟨rfl, V1⟩; have Va := Lib.hid V1; clear V1))
      clear hv0 hv1 hv2 hv3 hv4 hv5 hv6 hv7 hv8 hv9
      obtain ⟨y, hy⟩ : ∃ y, x.act c = y := ⟨_, rfl⟩
      obtain ⟨ni, no, ⟨⟨l, hl1, hl2, hl3, hl4⟩, hmf⟩, hcs⟩ := hy ▸ Bm.act x c
      have Vy := Lib.hid (hy ▸ Va.out)
      have lenl : (y.told.length : Int) ≤ 200 * k + 200 := Vy.out.f.1
      rw [T.out, List.nil_append] at hl1
      rw [hl1] at lenl
      have cN := Vy.out.S
      obtain ⟨now, hnow⟩ : ∃ now, y.S = now := ⟨_, rfl⟩
      rw [hnow] at cN hcs
      rw [HWAS.out] at hcs
      have n05 := Vy.out.k.S
      rw [hnow] at n05
      have HCS := Lib.hid (hcs.b w05.1 w05.2)
      have HNOW := Lib.hid hnow
      have HL1 := Lib.hid hl1
      have HL2 := Lib.hid hl2
      have HL3 := Lib.hid hl3
      have HL4 := Lib.hid hl4
      rw [HFZ.out] at hmf
      have HMF := Lib.hid hmf
      have hio : ni ≤ 1 ∧ no ≤ 1 := by
        unfold Cs Hr Tr at hcs
        omega
      have HTO := Lib.hid Vy.out.told
      clear hnow hl1 hl2 hl3 hl4 hmf hcs hy Va
      go_upto_region 15 with (first
        | ((with_reducible refine HTO.out.mono ?_); rintro e w5 ⟨vt, rfl, K1, V1, _⟩; have Vt := Lib.hid V1; (rw [HL1.out] at K1); (obtain ⟨at5, ct5, rfl, ho5⟩ := K1.open); have HO5 := Lib.hid ho5; clear K1 V1 ho5))
      clear cN
      go_upto_region 17 with fail
      go_wp2
      go_loop [12, 13, 14] (fun p q r => ∃ j : Nat, j ≤ l.length ∧ p = .int .i64 (ins (l.take j) : Nat) ∧ q = .int .i64 (outs (l.take j) : Nat) ∧ r = .int .i64 j) (fun _ _ r => l.length - (intOf r).toNat)
      case atStart => exact ⟨0, by omega, rfl, rfl, rfl⟩
      case round =>
        obtain ⟨j, hjl, rfl, rfl, rfl⟩ := hrel
        have b1 := ins_le l j
        have b2 := outs_le l j
        by_cases hj : j < l.length
        · have hj' : (j : Int) < l.length := by omega
          rcases HO5.out with h0 | ⟨bl, ol, rfl, hcl⟩
          · subst h0; simp at hj
          obtain ⟨hk0, hk1⟩ := hcl j l[j] (List.getElem?_eq_getElem hj)
          have e1 := ins_snoc l j hj
          have e2 := outs_snoc l j hj
          have hw := HL4.out l[j] (List.getElem_mem hj)
          generalize l[j].kind = kd at hk0 e1 e2 hw
          generalize l[j].why = wy at hk1 hw
          obtain ⟨p, hp⟩ : ∃ p, ins (l.take j) = p := ⟨_, rfl⟩
          obtain ⟨q, hq⟩ : ∃ q, outs (l.take j) = q := ⟨_, rfl⟩
          rw [hp] at e1 b1
          rw [hq] at e2 b2
          rw [hp, hq]
          have E1 := Lib.hid e1
          have E2 := Lib.hid e2
          have HW := Lib.hid hw
          clear e1 e2 hw hcl hp hq
          by_cases k1 : kd = 1
          · subst k1
            go_wp2
            go_round
            case rel => exact ⟨j + 1, by omega, by rw [E1.out]; go_num, by rw [E2.out]; go_num, by go_num⟩
            case measure => simp [intOf]; omega
          have k1' : (kd == 1) = false := beq_eq_false_iff_ne.2 k1
          by_cases k2 : kd = 2
          · subst k2
            obtain ⟨hw1, hw2⟩ := HW.out rfl
            have hw3 : (wy == 0) = false := beq_eq_false_iff_ne.2 (by omega)
            go_wp2
            go_round
            case rel => exact ⟨j + 1, by omega, by rw [E1.out]; go_num, by rw [E2.out]; go_num, by go_num⟩
            case measure => simp [intOf]; omega
          have k2' : (kd == 2) = false := beq_eq_false_iff_ne.2 k2
          go_wp2
          go_round
          case rel => exact ⟨j + 1, by omega, by rw [E1.out, if_neg k1]; go_num, by rw [E2.out, if_neg k2]; go_num, by go_num⟩
          case measure => simp [intOf]; omega
        · obtain rfl : j = l.length := by omega
          have ei : ins (l.take l.length) = ni := by rw [List.take_length]; exact HL2.out
          have eo : outs (l.take l.length) = no := by rw [List.take_length]; exact HL3.out
          rw [ei, eo]
          clear ei eo b1 b2
          obtain ⟨ii, hii⟩ : ∃ z : Int, (ni : Int) = z := ⟨_, rfl⟩
          obtain ⟨oo, hoo⟩ : ∃ z : Int, (no : Int) = z := ⟨_, rfl⟩
          rw [hii, hoo]
          have HB := HCS.out
          rw [hii, hoo] at HB
          have HMF2 := Lib.hid (show y.fails = fz + oo from by rw [HMF.out, hoo])
          have HF := Lib.hid (show Calls Tryz.prog 41 #[.pointer (some ⟨b, 0, none⟩)] w5 fun e w' => e = .returned (.int .i64 (fz + oo)) ∧ w5 = w' from by rw [← HMF2.out]; exact Vt.out.v.fails)
          have ho01 : 0 ≤ oo ∧ oo ≤ 1 := by omega
          have hi01 : 0 ≤ ii ∧ ii ≤ 1 := by omega
          clear HCS HMF hii hoo HO5 HL2 HL3 HL4 HTO HNOW HFZ HWAS DO HCO HI HC lenl w05 n05 hio
          unfold csB at HB
          obtain ⟨q, hq1, hq2⟩ := List.any_eq_true.1 HB
          have hqe := of_decide_eq_true hq2
          clear HB hq2
          simp only [List.mem_cons, List.not_mem_nil, or_false] at hq1
          rcases hq1 with rfl | rfl | rfl | rfl | rfl | rfl | rfl | rfl | rfl | rfl | rfl | rfl | rfl | rfl | rfl | rfl | rfl | rfl | rfl | rfl | rfl | rfl | rfl | rfl
          all_goals as_aux_lemma =>
            simp only [Prod.mk.injEq] at hqe
            obtain ⟨rfl, rfl, rfl, rfl⟩ := hqe
            clear ho01 hi01
            go_wp2_with (first | ((with_reducible refine HF.out.mono ?_); rintro e w6 ⟨rfl, rfl⟩))
            go_roundw
            case rel => exact ⟨k + 1, by omega, by go_num, { y with told := [] }, _, Vt.out.to rfl (by omega), rfl, rfl, by omega, by omega, by have := HMF2.out; simp only [this, Int.add_zero], by have := HMF2.out; simp only [this]; omega⟩
            case measure => simp [intOf]; omega
    · obtain rfl : k = n := by omega
      go_wp2
      go_ret
      exact ⟨rfl, V.out.v.bel⟩
end Go.Proofs.YtdffinnnjcgfcaaGreatK
