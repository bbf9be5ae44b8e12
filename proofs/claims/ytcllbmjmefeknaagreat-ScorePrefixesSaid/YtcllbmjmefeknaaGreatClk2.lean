/- The walk of clock.Tick. -/
import Derived.Test.YtcllbmjmefeknaaGreatClk
import Derived.Test.YtcllbmjmefeknaaGreatBsc
import Derived.Deep.RegionHeld3
namespace Go.Proofs.YtcllbmjmefeknaaGreatK
open Go Go.RowKit
set_option linter.unusedVariables false
set_option maxHeartbeats 1000000
set_option maxRecDepth 100000
/-- A clock of which the first so many timers have ticked. -/
def Ck.upto (c : Ck) (k : Nat) : Ck := ⟨if 0 < k then dn c.c0 else c.c0, if 1 < k then dn c.c1 else c.c1, if 2 < k then dn c.c2 else c.c2, if 3 < k then dn c.c3 else c.c3, if 4 < k then dn c.c4 else c.c4, if 5 < k then dn c.c5 else c.c5, if 6 < k then dn c.c6 else c.c6, if 7 < k then dn c.c7 else c.c7⟩
def Ck.rung (c : Ck) (k : Nat) : List Int := (List.range k).flatMap fun (i : Nat) => if c.get (i : Int) = 1 then [(i : Int)] else []
theorem Ck.upto_0 (c : Ck) : c.upto 0 = c := by simp [Ck.upto]
theorem Ck.upto_8 (c : Ck) : c.upto 8 = c.tick := by simp [Ck.upto, Ck.tick]
theorem Ck.rung_8 (c : Ck) : c.rung 8 = c.rang := by simp [Ck.rung, Ck.rang, Ck.get, List.range_succ]
theorem Ck.rung_succ (c : Ck) (k : Nat) : c.rung (k + 1) = c.rung k ++ if c.get k = 1 then [(k : Int)] else [] := by simp [Ck.rung, List.range_succ, List.flatMap_append]
theorem Ck.rung_len (c : Ck) (k : Nat) : (c.rung k).length ≤ k := by
  induction k with
  | zero => simp [Ck.rung]
  | succ k ih =>
    rw [Ck.rung_succ, List.length_append]
    split <;> simp <;> omega
theorem eightN {k : Nat} (h : k < 8) : k = 0 ∨ k = 1 ∨ k = 2 ∨ k = 3 ∨ k = 4 ∨ k = 5 ∨ k = 6 ∨ k = 7 := by omega
theorem dn_pos {x : Int} (h : 0 < x) : dn x = x - 1 := by unfold dn; rw [if_pos h]
theorem dn_neg {x : Int} (h : ¬ 0 < x) : dn x = x := by unfold dn; rw [if_neg h]
theorem Ck.upto_dn (c : Ck) (k : Nat) (h : k < 8) (hg : 0 < c.get k) : (c.upto (k + 1)).cells = (c.upto k).cells.setIfInBounds k (.int .i64 (c.get k - 1)) := by
  rcases eightN h with rfl | rfl | rfl | rfl | rfl | rfl | rfl | rfl
  · have h' : 0 < c.c0 := hg
    simp [Ck.upto, Ck.cells, dn_pos h', Ck.get]
  · have h' : 0 < c.c1 := hg
    simp [Ck.upto, Ck.cells, dn_pos h', Ck.get]
  · have h' : 0 < c.c2 := hg
    simp [Ck.upto, Ck.cells, dn_pos h', Ck.get]
  · have h' : 0 < c.c3 := hg
    simp [Ck.upto, Ck.cells, dn_pos h', Ck.get]
  · have h' : 0 < c.c4 := hg
    simp [Ck.upto, Ck.cells, dn_pos h', Ck.get]
  · have h' : 0 < c.c5 := hg
    simp [Ck.upto, Ck.cells, dn_pos h', Ck.get]
  · have h' : 0 < c.c6 := hg
    simp [Ck.upto, Ck.cells, dn_pos h', Ck.get]
  · have h' : 0 < c.c7 := hg
    simp [Ck.upto, Ck.cells, dn_pos h', Ck.get]
theorem Ck.upto_no (c : Ck) (k : Nat) (h : k < 8) (hg : ¬ 0 < c.get k) : (c.upto (k + 1)).cells = (c.upto k).cells := by
  rcases eightN h with rfl | rfl | rfl | rfl | rfl | rfl | rfl | rfl
  · have h' : ¬ 0 < c.c0 := hg
    simp [Ck.upto, Ck.cells, dn_neg h']
  · have h' : ¬ 0 < c.c1 := hg
    simp [Ck.upto, Ck.cells, dn_neg h']
  · have h' : ¬ 0 < c.c2 := hg
    simp [Ck.upto, Ck.cells, dn_neg h']
  · have h' : ¬ 0 < c.c3 := hg
    simp [Ck.upto, Ck.cells, dn_neg h']
  · have h' : ¬ 0 < c.c4 := hg
    simp [Ck.upto, Ck.cells, dn_neg h']
  · have h' : ¬ 0 < c.c5 := hg
    simp [Ck.upto, Ck.cells, dn_neg h']
  · have h' : ¬ 0 < c.c6 := hg
    simp [Ck.upto, Ck.cells, dn_neg h']
  · have h' : ¬ 0 < c.c7 := hg
    simp [Ck.upto, Ck.cells, dn_neg h']
theorem Ck.upto_get (c : Ck) (k : Nat) (h : k < 8) : (c.upto k).cells[k]? = some (.int .i64 (c.get k)) := by
  rcases eightN h with rfl | rfl | rfl | rfl | rfl | rfl | rfl | rfl <;> simp [Ck.upto, Ck.get]
theorem Ck.agg_get (c : Ck) (k : Nat) (h : k < 8) : c.cells[k]? = some (.int .i64 (c.get k)) := by
  rcases eightN h with rfl | rfl | rfl | rfl | rfl | rfl | rfl | rfl <;> simp [Ck.get]
theorem Ck.get_ok {c : Ck} (h : c.ok) (k : Nat) : 0 ≤ c.get k ∧ c.get k ≤ 4294967296 := by
  obtain ⟨h0, h1, h2, h3, h4, h5, h6, h7⟩ := h
  unfold Ck.get
  repeat' split
  all_goals omega
theorem Tick_c {w : World} {b : Nat} {c : Ck} (hb : CkAt w b c) (ho : c.ok) :
    Calls Tryz.prog 116 #[.pointer (some ⟨b, 0, none⟩)] w fun e w' => ∃ v, e = .returned v ∧ Row w' 3 1 v c.rang.length (c.rang.map (Value.int .i64)) ∧ (∀ g ∈ own v, w.heap.size ≤ g) ∧ CkAt w' b c.tick ∧ Chg [b] w w' := by
  have HO := Lib.hid ho
  have HB := Lib.hid hb
  have hc := hb.c
  clear hb ho
  go_enter Tryz.func116, Tryz.ntmps116
  go_wp2
  go_loopw [3, 13] (fun l i wr => ∃ k : Nat, k ≤ 8 ∧ i = .int .i64 k ∧ Row wr 3 1 l (c.rung k).length ((c.rung k).map (Value.int .i64)) ∧ (∀ g ∈ own l, w.heap.size ≤ g) ∧ CkAt wr b (c.upto k) ∧ Chg [b] w wr) (fun _ i _ => 8 - (intOf i).toNat)
  case atStart => exact ⟨0, by omega, rfl, Row.nil _ _ _, by simp [own, Value.ownBlock], by rw [Ck.upto_0]; exact HB.out, Chg.refl _ _⟩
  case round =>
    obtain ⟨k, hk, rfl, hr, ho, hbk, hch⟩ := hrel
    obtain ⟨al, cl, rfl, _⟩ := hr.shape
    by_cases hlt : k < 8
    · have hlen := Ck.rung_len c k
      have hno : b ∉ own (.slice al (c.rung k).length cl) := fun hg => by
        obtain ⟨cs, h1⟩ := hr.blk b hg
        exact hbk.ne h1 (by decide) rfl
      have HR := Lib.hid hr
      have HOW := Lib.hid ho
      have HK := Lib.hid hbk
      have HCH := Lib.hid hch
      have HNO := Lib.hid hno
      clear hr ho hbk hch hno
      generalize hki : (k : Int) = ki
      rcases eightN hlt with rfl | rfl | rfl | rfl | rfl | rfl | rfl | rfl
      · obtain rfl : ki = 0 := hki.symm
        clear hki
        have hix : ∀ w : World, (Instr.index 22 (.agg #[.int .i64 c.c0, .int .i64 c.c1, .int .i64 c.c2, .int .i64 c.c3, .int .i64 c.c4, .int .i64 c.c5, .int .i64 c.c6, .int .i64 c.c7]) (.int .i64 0)).run Tryz.prog w = .ok (.int .i64 c.c0) w := fun _ => by kernel_rfl
        have K1 : Blk wr b #[.int .i64 c.c0, .int .i64 c.c1, .int .i64 c.c2, .int .i64 c.c3, .int .i64 c.c4, .int .i64 c.c5, .int .i64 c.c6, .int .i64 c.c7] 210 := HK.out.as (by simp [Ck.upto])
        have hb0 : 0 ≤ c.c0 ∧ c.c0 ≤ 4294967296 := Ck.get_ok HO.out 0
        clear hlt
        by_cases h1 : 0 < c.c0
        · by_cases h2 : c.c0 = 1
          · have H2 := Lib.hid h2
            clear h2 hc
            go_wp2
            refine wp_region_up_tail 10 (by kernel_rfl) (by kernel_rfl) ?_
            simp only [List.take_succ_cons, List.take_zero, List.drop_succ_cons, List.drop_zero]
            have up_K1 := fun (g : Up _) => (Blk.below K1 g.ok).c
            repeat (go_big_quiet_step (fail))
            refine wpQuiet_nil ?_
            clear up_K1
            refine up_elim (fun w2 hb_w2 => ?_)
            have K2 := Lib.hid (Blk.below K1 hb_w2)
            have k2c := K2.out.c
            have k2f := K2.out.f
            clear K1
            have k2' : (c.c0 == 1) = true := by simp [H2.out]
            have R3 := Lib.hid (((HR.out.below hb_w2).chg (chg1 w2 b 0 (.int .i64 (c.c0 - 1))) (fun g hg => by simp only [List.mem_singleton]; rintro rfl; exact HNO.out hg)).below (bl_alloc (bl_refl _) (.cells #[.int .i64 0] 3)))
            have N4 := Lib.hid (Blk.newAt (w := w2.setCell ⟨b, 0, none⟩ (.int .i64 (c.c0 - 1))) (n := w2.heap.size) (by simp [World.setCell]) #[.int .i64 0] 3)
            go_wp2_with (first
              | ((refine wpList_row_append _ rfl (.tmp 31) (.tmp 33) 162 rfl 3 Tryz.t3 (.int .i64 0) 1 8 Tryz.underlying162 rfl rfl rfl rfl rfl (by decide) (.slice al (c.rung 0).length cl) (c.rung 0).length ((c.rung 0).map (Value.int .i64)) rfl R3.out ⟨w2.heap.size, 0, none⟩ 1 1 [.int .i64 0] rfl rfl (fun j u hu => by rw [Addr.add_lit, N4.out.c, Nat.zero_add]; simpa using hu) (by simp [Value.oneCell']) (by decide) (by simp [maxLen]; omega) (by omega) ?_); intro v5 w5 R5 G5 O5))
            go_roundw
            case rel =>
              refine ⟨1, by omega, by go_num, ?_, ?_, ?_, ?_⟩
              · rw [show c.rung 1 = c.rung 0 ++ [0] from by rw [show (1 : Nat) = 0 + 1 from rfl, Ck.rung_succ, if_pos (show c.get ((0 : Nat) : Int) = 1 from H2.out)]; rfl]
                simpa using R5
              · intro g hg
                rcases O5 g hg with h | h
                · exact HOW.out g h
                · have e1 := HCH.out.size
                  have e2 := hb_w2.size
                  simp [World.setCell] at h
                  omega
              · show Blk w5 b (Ck.cells _) _
                rw [show (1 : Nat) = 0 + 1 from rfl, Ck.upto_dn c 0 (by omega) h1]
                exact (((HK.out.below hb_w2).set 0 _).alloc _).chg G5 HNO.out
              · exact ((HCH.out.below hb_w2).then (chg1 w2 b 0 _)).trans (Chg.of_below (bl_alloc (bl_refl _) _) [b]) (by simp) |>.trans G5 (fun g hg => .inr (HOW.out g hg))
            case measure => simp [intOf]
          · have H2 := Lib.hid h2
            clear h2 hc
            go_wp2
            refine wp_region_up_tail 10 (by kernel_rfl) (by kernel_rfl) ?_
            simp only [List.take_succ_cons, List.take_zero, List.drop_succ_cons, List.drop_zero]
            have up_K1 := fun (g : Up _) => (Blk.below K1 g.ok).c
            repeat (go_big_quiet_step (fail))
            refine wpQuiet_nil ?_
            clear up_K1
            refine up_elim (fun w2 hb_w2 => ?_)
            have K2 := Lib.hid (Blk.below K1 hb_w2)
            have k2c := K2.out.c
            have k2f := K2.out.f
            clear K1
            have k2' : (c.c0 == 1) = false := beq_eq_false_iff_ne.2 H2.out
            go_wp2
            go_roundw
            case rel =>
              refine ⟨1, by omega, by go_num, ?_, ?_, ?_, ?_⟩
              · rw [show c.rung 1 = c.rung 0 from by rw [show (1 : Nat) = 0 + 1 from rfl, Ck.rung_succ, if_neg (show ¬ c.get ((0 : Nat) : Int) = 1 from H2.out)]; simp]
                exact ((HR.out.below hb_w2).chg (chg1 w2 b 0 (.int .i64 (c.c0 - 1))) (fun g hg => by simp only [List.mem_singleton]; rintro rfl; exact HNO.out hg))
              · exact HOW.out
              · show Blk _ b (Ck.cells _) _
                rw [show (1 : Nat) = 0 + 1 from rfl, Ck.upto_dn c 0 (by omega) h1]
                exact (HK.out.below hb_w2).set 0 _
              · exact (HCH.out.below hb_w2).then (chg1 w2 b 0 _)
            case measure => simp [intOf]
        · have h1' : c.c0 ≤ 0 := by omega
          have k2' : (c.c0 == 1) = false := beq_eq_false_iff_ne.2 (by omega)
          clear hc
          go_wp2
          go_roundw
          case rel =>
            refine ⟨1, by omega, by go_num, ?_, ?_, ?_, ?_⟩
            · rw [show c.rung 1 = c.rung 0 from by rw [show (1 : Nat) = 0 + 1 from rfl, Ck.rung_succ, if_neg (show ¬ c.get ((0 : Nat) : Int) = 1 from by have : c.get ((0 : Nat) : Int) = c.c0 := rfl; omega)]; simp]
              exact HR.out
            · exact HOW.out
            · show Blk _ b (Ck.cells _) _
              rw [show (1 : Nat) = 0 + 1 from rfl, Ck.upto_no c 0 (by omega) h1]
              exact HK.out
            · exact HCH.out
          case measure => simp [intOf]
      · obtain rfl : ki = 1 := hki.symm
        clear hki
        have hix : ∀ w : World, (Instr.index 22 (.agg #[.int .i64 c.c0, .int .i64 c.c1, .int .i64 c.c2, .int .i64 c.c3, .int .i64 c.c4, .int .i64 c.c5, .int .i64 c.c6, .int .i64 c.c7]) (.int .i64 1)).run Tryz.prog w = .ok (.int .i64 c.c1) w := fun _ => by kernel_rfl
        have K1 : Blk wr b #[.int .i64 (dn c.c0), .int .i64 c.c1, .int .i64 c.c2, .int .i64 c.c3, .int .i64 c.c4, .int .i64 c.c5, .int .i64 c.c6, .int .i64 c.c7] 210 := HK.out.as (by simp [Ck.upto])
        have hb0 : 0 ≤ c.c1 ∧ c.c1 ≤ 4294967296 := Ck.get_ok HO.out 1
        clear hlt
        by_cases h1 : 0 < c.c1
        · by_cases h2 : c.c1 = 1
          · have H2 := Lib.hid h2
            clear h2 hc
            go_wp2
            refine wp_region_up_tail 10 (by kernel_rfl) (by kernel_rfl) ?_
            simp only [List.take_succ_cons, List.take_zero, List.drop_succ_cons, List.drop_zero]
            have up_K1 := fun (g : Up _) => (Blk.below K1 g.ok).c
            repeat (go_big_quiet_step (fail))
            refine wpQuiet_nil ?_
            clear up_K1
            refine up_elim (fun w2 hb_w2 => ?_)
            have K2 := Lib.hid (Blk.below K1 hb_w2)
            have k2c := K2.out.c
            have k2f := K2.out.f
            clear K1
            have k2' : (c.c1 == 1) = true := by simp [H2.out]
            have R3 := Lib.hid (((HR.out.below hb_w2).chg (chg1 w2 b 1 (.int .i64 (c.c1 - 1))) (fun g hg => by simp only [List.mem_singleton]; rintro rfl; exact HNO.out hg)).below (bl_alloc (bl_refl _) (.cells #[.int .i64 1] 3)))
            have N4 := Lib.hid (Blk.newAt (w := w2.setCell ⟨b, 1, none⟩ (.int .i64 (c.c1 - 1))) (n := w2.heap.size) (by simp [World.setCell]) #[.int .i64 1] 3)
            go_wp2_with (first
              | ((refine wpList_row_append _ rfl (.tmp 31) (.tmp 33) 162 rfl 3 Tryz.t3 (.int .i64 0) 1 8 Tryz.underlying162 rfl rfl rfl rfl rfl (by decide) (.slice al (c.rung 1).length cl) (c.rung 1).length ((c.rung 1).map (Value.int .i64)) rfl R3.out ⟨w2.heap.size, 0, none⟩ 1 1 [.int .i64 1] rfl rfl (fun j u hu => by rw [Addr.add_lit, N4.out.c, Nat.zero_add]; simpa using hu) (by simp [Value.oneCell']) (by decide) (by simp [maxLen]; omega) (by omega) ?_); intro v5 w5 R5 G5 O5))
            go_roundw
            case rel =>
              refine ⟨2, by omega, by go_num, ?_, ?_, ?_, ?_⟩
              · rw [show c.rung 2 = c.rung 1 ++ [1] from by rw [show (2 : Nat) = 1 + 1 from rfl, Ck.rung_succ, if_pos (show c.get ((1 : Nat) : Int) = 1 from H2.out)]; rfl]
                simpa using R5
              · intro g hg
                rcases O5 g hg with h | h
                · exact HOW.out g h
                · have e1 := HCH.out.size
                  have e2 := hb_w2.size
                  simp [World.setCell] at h
                  omega
              · show Blk w5 b (Ck.cells _) _
                rw [show (2 : Nat) = 1 + 1 from rfl, Ck.upto_dn c 1 (by omega) h1]
                exact (((HK.out.below hb_w2).set 1 _).alloc _).chg G5 HNO.out
              · exact ((HCH.out.below hb_w2).then (chg1 w2 b 1 _)).trans (Chg.of_below (bl_alloc (bl_refl _) _) [b]) (by simp) |>.trans G5 (fun g hg => .inr (HOW.out g hg))
            case measure => simp [intOf]
          · have H2 := Lib.hid h2
            clear h2 hc
            go_wp2
            refine wp_region_up_tail 10 (by kernel_rfl) (by kernel_rfl) ?_
            simp only [List.take_succ_cons, List.take_zero, List.drop_succ_cons, List.drop_zero]
            have up_K1 := fun (g : Up _) => (Blk.below K1 g.ok).c
            repeat (go_big_quiet_step (fail))
            refine wpQuiet_nil ?_
            clear up_K1
            refine up_elim (fun w2 hb_w2 => ?_)
            have K2 := Lib.hid (Blk.below K1 hb_w2)
            have k2c := K2.out.c
            have k2f := K2.out.f
            clear K1
            have k2' : (c.c1 == 1) = false := beq_eq_false_iff_ne.2 H2.out
            go_wp2
            go_roundw
            case rel =>
              refine ⟨2, by omega, by go_num, ?_, ?_, ?_, ?_⟩
              · rw [show c.rung 2 = c.rung 1 from by rw [show (2 : Nat) = 1 + 1 from rfl, Ck.rung_succ, if_neg (show ¬ c.get ((1 : Nat) : Int) = 1 from H2.out)]; simp]
                exact ((HR.out.below hb_w2).chg (chg1 w2 b 1 (.int .i64 (c.c1 - 1))) (fun g hg => by simp only [List.mem_singleton]; rintro rfl; exact HNO.out hg))
              · exact HOW.out
              · show Blk _ b (Ck.cells _) _
                rw [show (2 : Nat) = 1 + 1 from rfl, Ck.upto_dn c 1 (by omega) h1]
                exact (HK.out.below hb_w2).set 1 _
              · exact (HCH.out.below hb_w2).then (chg1 w2 b 1 _)
            case measure => simp [intOf]
        · have h1' : c.c1 ≤ 0 := by omega
          have k2' : (c.c1 == 1) = false := beq_eq_false_iff_ne.2 (by omega)
          clear hc
          go_wp2
          go_roundw
          case rel =>
            refine ⟨2, by omega, by go_num, ?_, ?_, ?_, ?_⟩
            · rw [show c.rung 2 = c.rung 1 from by rw [show (2 : Nat) = 1 + 1 from rfl, Ck.rung_succ, if_neg (show ¬ c.get ((1 : Nat) : Int) = 1 from by have : c.get ((1 : Nat) : Int) = c.c1 := rfl; omega)]; simp]
              exact HR.out
            · exact HOW.out
            · show Blk _ b (Ck.cells _) _
              rw [show (2 : Nat) = 1 + 1 from rfl, Ck.upto_no c 1 (by omega) h1]
              exact HK.out
            · exact HCH.out
          case measure => simp [intOf]
      · obtain rfl : ki = 2 := hki.symm
        clear hki
        have hix : ∀ w : World, (Instr.index 22 (.agg #[.int .i64 c.c0, .int .i64 c.c1, .int .i64 c.c2, .int .i64 c.c3, .int .i64 c.c4, .int .i64 c.c5, .int .i64 c.c6, .int .i64 c.c7]) (.int .i64 2)).run Tryz.prog w = .ok (.int .i64 c.c2) w := fun _ => by kernel_rfl
        have K1 : Blk wr b #[.int .i64 (dn c.c0), .int .i64 (dn c.c1), .int .i64 c.c2, .int .i64 c.c3, .int .i64 c.c4, .int .i64 c.c5, .int .i64 c.c6, .int .i64 c.c7] 210 := HK.out.as (by simp [Ck.upto])
        have hb0 : 0 ≤ c.c2 ∧ c.c2 ≤ 4294967296 := Ck.get_ok HO.out 2
        clear hlt
        by_cases h1 : 0 < c.c2
        · by_cases h2 : c.c2 = 1
          · have H2 := Lib.hid h2
            clear h2 hc
            go_wp2
            refine wp_region_up_tail 10 (by kernel_rfl) (by kernel_rfl) ?_
            simp only [List.take_succ_cons, List.take_zero, List.drop_succ_cons, List.drop_zero]
            have up_K1 := fun (g : Up _) => (Blk.below K1 g.ok).c
            repeat (go_big_quiet_step (fail))
            refine wpQuiet_nil ?_
            clear up_K1
            refine up_elim (fun w2 hb_w2 => ?_)
            have K2 := Lib.hid (Blk.below K1 hb_w2)
            have k2c := K2.out.c
            have k2f := K2.out.f
            clear K1
            have k2' : (c.c2 == 1) = true := by simp [H2.out]
            have R3 := Lib.hid (((HR.out.below hb_w2).chg (chg1 w2 b 2 (.int .i64 (c.c2 - 1))) (fun g hg => by simp only [List.mem_singleton]; rintro rfl; exact HNO.out hg)).below (bl_alloc (bl_refl _) (.cells #[.int .i64 2] 3)))
            have N4 := Lib.hid (Blk.newAt (w := w2.setCell ⟨b, 2, none⟩ (.int .i64 (c.c2 - 1))) (n := w2.heap.size) (by simp [World.setCell]) #[.int .i64 2] 3)
            go_wp2_with (first
              | ((refine wpList_row_append _ rfl (.tmp 31) (.tmp 33) 162 rfl 3 Tryz.t3 (.int .i64 0) 1 8 Tryz.underlying162 rfl rfl rfl rfl rfl (by decide) (.slice al (c.rung 2).length cl) (c.rung 2).length ((c.rung 2).map (Value.int .i64)) rfl R3.out ⟨w2.heap.size, 0, none⟩ 1 1 [.int .i64 2] rfl rfl (fun j u hu => by rw [Addr.add_lit, N4.out.c, Nat.zero_add]; simpa using hu) (by simp [Value.oneCell']) (by decide) (by simp [maxLen]; omega) (by omega) ?_); intro v5 w5 R5 G5 O5))
            go_roundw
            case rel =>
              refine ⟨3, by omega, by go_num, ?_, ?_, ?_, ?_⟩
              · rw [show c.rung 3 = c.rung 2 ++ [2] from by rw [show (3 : Nat) = 2 + 1 from rfl, Ck.rung_succ, if_pos (show c.get ((2 : Nat) : Int) = 1 from H2.out)]; rfl]
                simpa using R5
              · intro g hg
                rcases O5 g hg with h | h
                · exact HOW.out g h
                · have e1 := HCH.out.size
                  have e2 := hb_w2.size
                  simp [World.setCell] at h
                  omega
              · show Blk w5 b (Ck.cells _) _
                rw [show (3 : Nat) = 2 + 1 from rfl, Ck.upto_dn c 2 (by omega) h1]
                exact (((HK.out.below hb_w2).set 2 _).alloc _).chg G5 HNO.out
              · exact ((HCH.out.below hb_w2).then (chg1 w2 b 2 _)).trans (Chg.of_below (bl_alloc (bl_refl _) _) [b]) (by simp) |>.trans G5 (fun g hg => .inr (HOW.out g hg))
            case measure => simp [intOf]
          · have H2 := Lib.hid h2
            clear h2 hc
            go_wp2
            refine wp_region_up_tail 10 (by kernel_rfl) (by kernel_rfl) ?_
            simp only [List.take_succ_cons, List.take_zero, List.drop_succ_cons, List.drop_zero]
            have up_K1 := fun (g : Up _) => (Blk.below K1 g.ok).c
            repeat (go_big_quiet_step (fail))
            refine wpQuiet_nil ?_
            clear up_K1
            refine up_elim (fun w2 hb_w2 => ?_)
            have K2 := Lib.hid (Blk.below K1 hb_w2)
            have k2c := K2.out.c
            have k2f := K2.out.f
            clear K1
            have k2' : (c.c2 == 1) = false := beq_eq_false_iff_ne.2 H2.out
            go_wp2
            go_roundw
            case rel =>
              refine ⟨3, by omega, by go_num, ?_, ?_, ?_, ?_⟩
              · rw [show c.rung 3 = c.rung 2 from by rw [show (3 : Nat) = 2 + 1 from rfl, Ck.rung_succ, if_neg (show ¬ c.get ((2 : Nat) : Int) = 1 from H2.out)]; simp]
                exact ((HR.out.below hb_w2).chg (chg1 w2 b 2 (.int .i64 (c.c2 - 1))) (fun g hg => by simp only [List.mem_singleton]; rintro rfl; exact HNO.out hg))
              · exact HOW.out
              · show Blk _ b (Ck.cells _) _
                rw [show (3 : Nat) = 2 + 1 from rfl, Ck.upto_dn c 2 (by omega) h1]
                exact (HK.out.below hb_w2).set 2 _
              · exact (HCH.out.below hb_w2).then (chg1 w2 b 2 _)
            case measure => simp [intOf]
        · have h1' : c.c2 ≤ 0 := by omega
          have k2' : (c.c2 == 1) = false := beq_eq_false_iff_ne.2 (by omega)
          clear hc
          go_wp2
          go_roundw
          case rel =>
            refine ⟨3, by omega, by go_num, ?_, ?_, ?_, ?_⟩
            · rw [show c.rung 3 = c.rung 2 from by rw [show (3 : Nat) = 2 + 1 from rfl, Ck.rung_succ, if_neg (show ¬ c.get ((2 : Nat) : Int) = 1 from by have : c.get ((2 : Nat) : Int) = c.c2 := rfl; omega)]; simp]
              exact HR.out
            · exact HOW.out
            · show Blk _ b (Ck.cells _) _
              rw [show (3 : Nat) = 2 + 1 from rfl, Ck.upto_no c 2 (by omega) h1]
              exact HK.out
            · exact HCH.out
          case measure => simp [intOf]
      · obtain rfl : ki = 3 := hki.symm
        clear hki
        have hix : ∀ w : World, (Instr.index 22 (.agg #[.int .i64 c.c0, .int .i64 c.c1, .int .i64 c.c2, .int .i64 c.c3, .int .i64 c.c4, .int .i64 c.c5, .int .i64 c.c6, .int .i64 c.c7]) (.int .i64 3)).run Tryz.prog w = .ok (.int .i64 c.c3) w := fun _ => by kernel_rfl
        have K1 : Blk wr b #[.int .i64 (dn c.c0), .int .i64 (dn c.c1), .int .i64 (dn c.c2), .int .i64 c.c3, .int .i64 c.c4, .int .i64 c.c5, .int .i64 c.c6, .int .i64 c.c7] 210 := HK.out.as (by simp [Ck.upto])
        have hb0 : 0 ≤ c.c3 ∧ c.c3 ≤ 4294967296 := Ck.get_ok HO.out 3
        clear hlt
        by_cases h1 : 0 < c.c3
        · by_cases h2 : c.c3 = 1
          · have H2 := Lib.hid h2
            clear h2 hc
            go_wp2
            refine wp_region_up_tail 10 (by kernel_rfl) (by kernel_rfl) ?_
            simp only [List.take_succ_cons, List.take_zero, List.drop_succ_cons, List.drop_zero]
            have up_K1 := fun (g : Up _) => (Blk.below K1 g.ok).c
            repeat (go_big_quiet_step (fail))
            refine wpQuiet_nil ?_
            clear up_K1
            refine up_elim (fun w2 hb_w2 => ?_)
            have K2 := Lib.hid (Blk.below K1 hb_w2)
            have k2c := K2.out.c
            have k2f := K2.out.f
            clear K1
            have k2' : (c.c3 == 1) = true := by simp [H2.out]
            have R3 := Lib.hid (((HR.out.below hb_w2).chg (chg1 w2 b 3 (.int .i64 (c.c3 - 1))) (fun g hg => by simp only [List.mem_singleton]; rintro rfl; exact HNO.out hg)).below (bl_alloc (bl_refl _) (.cells #[.int .i64 3] 3)))
            have N4 := Lib.hid (Blk.newAt (w := w2.setCell ⟨b, 3, none⟩ (.int .i64 (c.c3 - 1))) (n := w2.heap.size) (by simp [World.setCell]) #[.int .i64 3] 3)
            go_wp2_with (first
              | ((refine wpList_row_append _ rfl (.tmp 31) (.tmp 33) 162 rfl 3 Tryz.t3 (.int .i64 0) 1 8 Tryz.underlying162 rfl rfl rfl rfl rfl (by decide) (.slice al (c.rung 3).length cl) (c.rung 3).length ((c.rung 3).map (Value.int .i64)) rfl R3.out ⟨w2.heap.size, 0, none⟩ 1 1 [.int .i64 3] rfl rfl (fun j u hu => by rw [Addr.add_lit, N4.out.c, Nat.zero_add]; simpa using hu) (by simp [Value.oneCell']) (by decide) (by simp [maxLen]; omega) (by omega) ?_); intro v5 w5 R5 G5 O5))
            go_roundw
            case rel =>
              refine ⟨4, by omega, by go_num, ?_, ?_, ?_, ?_⟩
              · rw [show c.rung 4 = c.rung 3 ++ [3] from by rw [show (4 : Nat) = 3 + 1 from rfl, Ck.rung_succ, if_pos (show c.get ((3 : Nat) : Int) = 1 from H2.out)]; rfl]
                simpa using R5
              · intro g hg
                rcases O5 g hg with h | h
                · exact HOW.out g h
                · have e1 := HCH.out.size
                  have e2 := hb_w2.size
                  simp [World.setCell] at h
                  omega
              · show Blk w5 b (Ck.cells _) _
                rw [show (4 : Nat) = 3 + 1 from rfl, Ck.upto_dn c 3 (by omega) h1]
                exact (((HK.out.below hb_w2).set 3 _).alloc _).chg G5 HNO.out
              · exact ((HCH.out.below hb_w2).then (chg1 w2 b 3 _)).trans (Chg.of_below (bl_alloc (bl_refl _) _) [b]) (by simp) |>.trans G5 (fun g hg => .inr (HOW.out g hg))
            case measure => simp [intOf]
          · have H2 := Lib.hid h2
            clear h2 hc
            go_wp2
            refine wp_region_up_tail 10 (by kernel_rfl) (by kernel_rfl) ?_
            simp only [List.take_succ_cons, List.take_zero, List.drop_succ_cons, List.drop_zero]
            have up_K1 := fun (g : Up _) => (Blk.below K1 g.ok).c
            repeat (go_big_quiet_step (fail))
            refine wpQuiet_nil ?_
            clear up_K1
            refine up_elim (fun w2 hb_w2 => ?_)
            have K2 := Lib.hid (Blk.below K1 hb_w2)
            have k2c := K2.out.c
            have k2f := K2.out.f
            clear K1
            have k2' : (c.c3 == 1) = false := beq_eq_false_iff_ne.2 H2.out
            go_wp2
            go_roundw
            case rel =>
              refine ⟨4, by omega, by go_num, ?_, ?_, ?_, ?_⟩
              · rw [show c.rung 4 = c.rung 3 from by rw [show (4 : Nat) = 3 + 1 from rfl, Ck.rung_succ, if_neg (show ¬ c.get ((3 : Nat) : Int) = 1 from H2.out)]; simp]
                exact ((HR.out.below hb_w2).chg (chg1 w2 b 3 (.int .i64 (c.c3 - 1))) (fun g hg => by simp only [List.mem_singleton]; rintro rfl; exact HNO.out hg))
              · exact HOW.out
              · show Blk _ b (Ck.cells _) _
                rw [show (4 : Nat) = 3 + 1 from rfl, Ck.upto_dn c 3 (by omega) h1]
                exact (HK.out.below hb_w2).set 3 _
              · exact (HCH.out.below hb_w2).then (chg1 w2 b 3 _)
            case measure => simp [intOf]
        · have h1' : c.c3 ≤ 0 := by omega
          have k2' : (c.c3 == 1) = false := beq_eq_false_iff_ne.2 (by omega)
          clear hc
          go_wp2
          go_roundw
          case rel =>
            refine ⟨4, by omega, by go_num, ?_, ?_, ?_, ?_⟩
            · rw [show c.rung 4 = c.rung 3 from by rw [show (4 : Nat) = 3 + 1 from rfl, Ck.rung_succ, if_neg (show ¬ c.get ((3 : Nat) : Int) = 1 from by have : c.get ((3 : Nat) : Int) = c.c3 := rfl; omega)]; simp]
              exact HR.out
            · exact HOW.out
            · show Blk _ b (Ck.cells _) _
              rw [show (4 : Nat) = 3 + 1 from rfl, Ck.upto_no c 3 (by omega) h1]
              exact HK.out
            · exact HCH.out
          case measure => simp [intOf]
      · obtain rfl : ki = 4 := hki.symm
        clear hki
        have hix : ∀ w : World, (Instr.index 22 (.agg #[.int .i64 c.c0, .int .i64 c.c1, .int .i64 c.c2, .int .i64 c.c3, .int .i64 c.c4, .int .i64 c.c5, .int .i64 c.c6, .int .i64 c.c7]) (.int .i64 4)).run Tryz.prog w = .ok (.int .i64 c.c4) w := fun _ => by kernel_rfl
        have K1 : Blk wr b #[.int .i64 (dn c.c0), .int .i64 (dn c.c1), .int .i64 (dn c.c2), .int .i64 (dn c.c3), .int .i64 c.c4, .int .i64 c.c5, .int .i64 c.c6, .int .i64 c.c7] 210 := HK.out.as (by simp [Ck.upto])
        have hb0 : 0 ≤ c.c4 ∧ c.c4 ≤ 4294967296 := Ck.get_ok HO.out 4
        clear hlt
        by_cases h1 : 0 < c.c4
        · by_cases h2 : c.c4 = 1
          · have H2 := Lib.hid h2
            clear h2 hc
            go_wp2
            refine wp_region_up_tail 10 (by kernel_rfl) (by kernel_rfl) ?_
            simp only [List.take_succ_cons, List.take_zero, List.drop_succ_cons, List.drop_zero]
            have up_K1 := fun (g : Up _) => (Blk.below K1 g.ok).c
            repeat (go_big_quiet_step (fail))
            refine wpQuiet_nil ?_
            clear up_K1
            refine up_elim (fun w2 hb_w2 => ?_)
            have K2 := Lib.hid (Blk.below K1 hb_w2)
            have k2c := K2.out.c
            have k2f := K2.out.f
            clear K1
            have k2' : (c.c4 == 1) = true := by simp [H2.out]
            have R3 := Lib.hid (((HR.out.below hb_w2).chg (chg1 w2 b 4 (.int .i64 (c.c4 - 1))) (fun g hg => by simp only [List.mem_singleton]; rintro rfl; exact HNO.out hg)).below (bl_alloc (bl_refl _) (.cells #[.int .i64 4] 3)))
            have N4 := Lib.hid (Blk.newAt (w := w2.setCell ⟨b, 4, none⟩ (.int .i64 (c.c4 - 1))) (n := w2.heap.size) (by simp [World.setCell]) #[.int .i64 4] 3)
            go_wp2_with (first
              | ((refine wpList_row_append _ rfl (.tmp 31) (.tmp 33) 162 rfl 3 Tryz.t3 (.int .i64 0) 1 8 Tryz.underlying162 rfl rfl rfl rfl rfl (by decide) (.slice al (c.rung 4).length cl) (c.rung 4).length ((c.rung 4).map (Value.int .i64)) rfl R3.out ⟨w2.heap.size, 0, none⟩ 1 1 [.int .i64 4] rfl rfl (fun j u hu => by rw [Addr.add_lit, N4.out.c, Nat.zero_add]; simpa using hu) (by simp [Value.oneCell']) (by decide) (by simp [maxLen]; omega) (by omega) ?_); intro v5 w5 R5 G5 O5))
            go_roundw
            case rel =>
              refine ⟨5, by omega, by go_num, ?_, ?_, ?_, ?_⟩
              · rw [show c.rung 5 = c.rung 4 ++ [4] from by rw [show (5 : Nat) = 4 + 1 from rfl, Ck.rung_succ, if_pos (show c.get ((4 : Nat) : Int) = 1 from H2.out)]; rfl]
                simpa using R5
              · intro g hg
                rcases O5 g hg with h | h
                · exact HOW.out g h
                · have e1 := HCH.out.size
                  have e2 := hb_w2.size
                  simp [World.setCell] at h
                  omega
              · show Blk w5 b (Ck.cells _) _
                rw [show (5 : Nat) = 4 + 1 from rfl, Ck.upto_dn c 4 (by omega) h1]
                exact (((HK.out.below hb_w2).set 4 _).alloc _).chg G5 HNO.out
              · exact ((HCH.out.below hb_w2).then (chg1 w2 b 4 _)).trans (Chg.of_below (bl_alloc (bl_refl _) _) [b]) (by simp) |>.trans G5 (fun g hg => .inr (HOW.out g hg))
            case measure => simp [intOf]
          · have H2 := Lib.hid h2
            clear h2 hc
            go_wp2
            refine wp_region_up_tail 10 (by kernel_rfl) (by kernel_rfl) ?_
            simp only [List.take_succ_cons, List.take_zero, List.drop_succ_cons, List.drop_zero]
            have up_K1 := fun (g : Up _) => (Blk.below K1 g.ok).c
            repeat (go_big_quiet_step (fail))
            refine wpQuiet_nil ?_
            clear up_K1
            refine up_elim (fun w2 hb_w2 => ?_)
            have K2 := Lib.hid (Blk.below K1 hb_w2)
            have k2c := K2.out.c
            have k2f := K2.out.f
            clear K1
            have k2' : (c.c4 == 1) = false := beq_eq_false_iff_ne.2 H2.out
            go_wp2
            go_roundw
            case rel =>
              refine ⟨5, by omega, by go_num, ?_, ?_, ?_, ?_⟩
              · rw [show c.rung 5 = c.rung 4 from by rw [show (5 : Nat) = 4 + 1 from rfl, Ck.rung_succ, if_neg (show ¬ c.get ((4 : Nat) : Int) = 1 from H2.out)]; simp]
                exact ((HR.out.below hb_w2).chg (chg1 w2 b 4 (.int .i64 (c.c4 - 1))) (fun g hg => by simp only [List.mem_singleton]; rintro rfl; exact HNO.out hg))
              · exact HOW.out
              · show Blk _ b (Ck.cells _) _
                rw [show (5 : Nat) = 4 + 1 from rfl, Ck.upto_dn c 4 (by omega) h1]
                exact (HK.out.below hb_w2).set 4 _
              · exact (HCH.out.below hb_w2).then (chg1 w2 b 4 _)
            case measure => simp [intOf]
        · have h1' : c.c4 ≤ 0 := by omega
          have k2' : (c.c4 == 1) = false := beq_eq_false_iff_ne.2 (by omega)
          clear hc
          go_wp2
          go_roundw
          case rel =>
            refine ⟨5, by omega, by go_num, ?_, ?_, ?_, ?_⟩
            · rw [show c.rung 5 = c.rung 4 from by rw [show (5 : Nat) = 4 + 1 from rfl, Ck.rung_succ, if_neg (show ¬ c.get ((4 : Nat) : Int) = 1 from by have : c.get ((4 : Nat) : Int) = c.c4 := rfl; omega)]; simp]
              exact HR.out
            · exact HOW.out
            · show Blk _ b (Ck.cells _) _
              rw [show (5 : Nat) = 4 + 1 from rfl, Ck.upto_no c 4 (by omega) h1]
              exact HK.out
            · exact HCH.out
          case measure => simp [intOf]
      · obtain rfl : ki = 5 := hki.symm
        clear hki
        have hix : ∀ w : World, (Instr.index 22 (.agg #[.int .i64 c.c0, .int .i64 c.c1, .int .i64 c.c2, .int .i64 c.c3, .int .i64 c.c4, .int .i64 c.c5, .int .i64 c.c6, .int .i64 c.c7]) (.int .i64 5)).run Tryz.prog w = .ok (.int .i64 c.c5) w := fun _ => by kernel_rfl
        have K1 : Blk wr b #[.int .i64 (dn c.c0), .int .i64 (dn c.c1), .int .i64 (dn c.c2), .int .i64 (dn c.c3), .int .i64 (dn c.c4), .int .i64 c.c5, .int .i64 c.c6, .int .i64 c.c7] 210 := HK.out.as (by simp [Ck.upto])
        have hb0 : 0 ≤ c.c5 ∧ c.c5 ≤ 4294967296 := Ck.get_ok HO.out 5
        clear hlt
        by_cases h1 : 0 < c.c5
        · by_cases h2 : c.c5 = 1
          · have H2 := Lib.hid h2
            clear h2 hc
            go_wp2
            refine wp_region_up_tail 10 (by kernel_rfl) (by kernel_rfl) ?_
            simp only [List.take_succ_cons, List.take_zero, List.drop_succ_cons, List.drop_zero]
            have up_K1 := fun (g : Up _) => (Blk.below K1 g.ok).c
            repeat (go_big_quiet_step (fail))
            refine wpQuiet_nil ?_
            clear up_K1
            refine up_elim (fun w2 hb_w2 => ?_)
            have K2 := Lib.hid (Blk.below K1 hb_w2)
            have k2c := K2.out.c
            have k2f := K2.out.f
            clear K1
            have k2' : (c.c5 == 1) = true := by simp [H2.out]
            have R3 := Lib.hid (((HR.out.below hb_w2).chg (chg1 w2 b 5 (.int .i64 (c.c5 - 1))) (fun g hg => by simp only [List.mem_singleton]; rintro rfl; exact HNO.out hg)).below (bl_alloc (bl_refl _) (.cells #[.int .i64 5] 3)))
            have N4 := Lib.hid (Blk.newAt (w := w2.setCell ⟨b, 5, none⟩ (.int .i64 (c.c5 - 1))) (n := w2.heap.size) (by simp [World.setCell]) #[.int .i64 5] 3)
            go_wp2_with (first
              | ((refine wpList_row_append _ rfl (.tmp 31) (.tmp 33) 162 rfl 3 Tryz.t3 (.int .i64 0) 1 8 Tryz.underlying162 rfl rfl rfl rfl rfl (by decide) (.slice al (c.rung 5).length cl) (c.rung 5).length ((c.rung 5).map (Value.int .i64)) rfl R3.out ⟨w2.heap.size, 0, none⟩ 1 1 [.int .i64 5] rfl rfl (fun j u hu => by rw [Addr.add_lit, N4.out.c, Nat.zero_add]; simpa using hu) (by simp [Value.oneCell']) (by decide) (by simp [maxLen]; omega) (by omega) ?_); intro v5 w5 R5 G5 O5))
            go_roundw
            case rel =>
              refine ⟨6, by omega, by go_num, ?_, ?_, ?_, ?_⟩
              · rw [show c.rung 6 = c.rung 5 ++ [5] from by rw [show (6 : Nat) = 5 + 1 from rfl, Ck.rung_succ, if_pos (show c.get ((5 : Nat) : Int) = 1 from H2.out)]; rfl]
                simpa using R5
              · intro g hg
                rcases O5 g hg with h | h
                · exact HOW.out g h
                · have e1 := HCH.out.size
                  have e2 := hb_w2.size
                  simp [World.setCell] at h
                  omega
              · show Blk w5 b (Ck.cells _) _
                rw [show (6 : Nat) = 5 + 1 from rfl, Ck.upto_dn c 5 (by omega) h1]
                exact (((HK.out.below hb_w2).set 5 _).alloc _).chg G5 HNO.out
              · exact ((HCH.out.below hb_w2).then (chg1 w2 b 5 _)).trans (Chg.of_below (bl_alloc (bl_refl _) _) [b]) (by simp) |>.trans G5 (fun g hg => .inr (HOW.out g hg))
            case measure => simp [intOf]
          · have H2 := Lib.hid h2
            clear h2 hc
            go_wp2
            refine wp_region_up_tail 10 (by kernel_rfl) (by kernel_rfl) ?_
            simp only [List.take_succ_cons, List.take_zero, List.drop_succ_cons, List.drop_zero]
            have up_K1 := fun (g : Up _) => (Blk.below K1 g.ok).c
            repeat (go_big_quiet_step (fail))
            refine wpQuiet_nil ?_
            clear up_K1
            refine up_elim (fun w2 hb_w2 => ?_)
            have K2 := Lib.hid (Blk.below K1 hb_w2)
            have k2c := K2.out.c
            have k2f := K2.out.f
            clear K1
            have k2' : (c.c5 == 1) = false := beq_eq_false_iff_ne.2 H2.out
            go_wp2
            go_roundw
            case rel =>
              refine ⟨6, by omega, by go_num, ?_, ?_, ?_, ?_⟩
              · rw [show c.rung 6 = c.rung 5 from by rw [show (6 : Nat) = 5 + 1 from rfl, Ck.rung_succ, if_neg (show ¬ c.get ((5 : Nat) : Int) = 1 from H2.out)]; simp]
                exact ((HR.out.below hb_w2).chg (chg1 w2 b 5 (.int .i64 (c.c5 - 1))) (fun g hg => by simp only [List.mem_singleton]; rintro rfl; exact HNO.out hg))
              · exact HOW.out
              · show Blk _ b (Ck.cells _) _
                rw [show (6 : Nat) = 5 + 1 from rfl, Ck.upto_dn c 5 (by omega) h1]
                exact (HK.out.below hb_w2).set 5 _
              · exact (HCH.out.below hb_w2).then (chg1 w2 b 5 _)
            case measure => simp [intOf]
        · have h1' : c.c5 ≤ 0 := by omega
          have k2' : (c.c5 == 1) = false := beq_eq_false_iff_ne.2 (by omega)
          clear hc
          go_wp2
          go_roundw
          case rel =>
            refine ⟨6, by omega, by go_num, ?_, ?_, ?_, ?_⟩
            · rw [show c.rung 6 = c.rung 5 from by rw [show (6 : Nat) = 5 + 1 from rfl, Ck.rung_succ, if_neg (show ¬ c.get ((5 : Nat) : Int) = 1 from by have : c.get ((5 : Nat) : Int) = c.c5 := rfl; omega)]; simp]
              exact HR.out
            · exact HOW.out
            · show Blk _ b (Ck.cells _) _
              rw [show (6 : Nat) = 5 + 1 from rfl, Ck.upto_no c 5 (by omega) h1]
              exact HK.out
            · exact HCH.out
          case measure => simp [intOf]
      · obtain rfl : ki = 6 := hki.symm
        clear hki
        have hix : ∀ w : World, (Instr.index 22 (.agg #[.int .i64 c.c0, .int .i64 c.c1, .int .i64 c.c2, .int .i64 c.c3, .int .i64 c.c4, .int .i64 c.c5, .int .i64 c.c6, .int .i64 c.c7]) (.int .i64 6)).run Tryz.prog w = .ok (.int .i64 c.c6) w := fun _ => by kernel_rfl
        have K1 : Blk wr b #[.int .i64 (dn c.c0), .int .i64 (dn c.c1), .int .i64 (dn c.c2), .int .i64 (dn c.c3), .int .i64 (dn c.c4), .int .i64 (dn c.c5), .int .i64 c.c6, .int .i64 c.c7] 210 := HK.out.as (by simp [Ck.upto])
        have hb0 : 0 ≤ c.c6 ∧ c.c6 ≤ 4294967296 := Ck.get_ok HO.out 6
        clear hlt
        by_cases h1 : 0 < c.c6
        · by_cases h2 : c.c6 = 1
          · have H2 := Lib.hid h2
            clear h2 hc
            go_wp2
            refine wp_region_up_tail 10 (by kernel_rfl) (by kernel_rfl) ?_
            simp only [List.take_succ_cons, List.take_zero, List.drop_succ_cons, List.drop_zero]
            have up_K1 := fun (g : Up _) => (Blk.below K1 g.ok).c
            repeat (go_big_quiet_step (fail))
            refine wpQuiet_nil ?_
            clear up_K1
            refine up_elim (fun w2 hb_w2 => ?_)
            have K2 := Lib.hid (Blk.below K1 hb_w2)
            have k2c := K2.out.c
            have k2f := K2.out.f
            clear K1
            have k2' : (c.c6 == 1) = true := by simp [H2.out]
            have R3 := Lib.hid (((HR.out.below hb_w2).chg (chg1 w2 b 6 (.int .i64 (c.c6 - 1))) (fun g hg => by simp only [List.mem_singleton]; rintro rfl; exact HNO.out hg)).below (bl_alloc (bl_refl _) (.cells #[.int .i64 6] 3)))
            have N4 := Lib.hid (Blk.newAt (w := w2.setCell ⟨b, 6, none⟩ (.int .i64 (c.c6 - 1))) (n := w2.heap.size) (by simp [World.setCell]) #[.int .i64 6] 3)
            go_wp2_with (first
              | ((refine wpList_row_append _ rfl (.tmp 31) (.tmp 33) 162 rfl 3 Tryz.t3 (.int .i64 0) 1 8 Tryz.underlying162 rfl rfl rfl rfl rfl (by decide) (.slice al (c.rung 6).length cl) (c.rung 6).length ((c.rung 6).map (Value.int .i64)) rfl R3.out ⟨w2.heap.size, 0, none⟩ 1 1 [.int .i64 6] rfl rfl (fun j u hu => by rw [Addr.add_lit, N4.out.c, Nat.zero_add]; simpa using hu) (by simp [Value.oneCell']) (by decide) (by simp [maxLen]; omega) (by omega) ?_); intro v5 w5 R5 G5 O5))
            go_roundw
            case rel =>
              refine ⟨7, by omega, by go_num, ?_, ?_, ?_, ?_⟩
              · rw [show c.rung 7 = c.rung 6 ++ [6] from by rw [show (7 : Nat) = 6 + 1 from rfl, Ck.rung_succ, if_pos (show c.get ((6 : Nat) : Int) = 1 from H2.out)]; rfl]
                simpa using R5
              · intro g hg
                rcases O5 g hg with h | h
                · exact HOW.out g h
                · have e1 := HCH.out.size
                  have e2 := hb_w2.size
                  simp [World.setCell] at h
                  omega
              · show Blk w5 b (Ck.cells _) _
                rw [show (7 : Nat) = 6 + 1 from rfl, Ck.upto_dn c 6 (by omega) h1]
                exact (((HK.out.below hb_w2).set 6 _).alloc _).chg G5 HNO.out
              · exact ((HCH.out.below hb_w2).then (chg1 w2 b 6 _)).trans (Chg.of_below (bl_alloc (bl_refl _) _) [b]) (by simp) |>.trans G5 (fun g hg => .inr (HOW.out g hg))
            case measure => simp [intOf]
          · have H2 := Lib.hid h2
            clear h2 hc
            go_wp2
            refine wp_region_up_tail 10 (by kernel_rfl) (by kernel_rfl) ?_
            simp only [List.take_succ_cons, List.take_zero, List.drop_succ_cons, List.drop_zero]
            have up_K1 := fun (g : Up _) => (Blk.below K1 g.ok).c
            repeat (go_big_quiet_step (fail))
            refine wpQuiet_nil ?_
            clear up_K1
            refine up_elim (fun w2 hb_w2 => ?_)
            have K2 := Lib.hid (Blk.below K1 hb_w2)
            have k2c := K2.out.c
            have k2f := K2.out.f
            clear K1
            have k2' : (c.c6 == 1) = false := beq_eq_false_iff_ne.2 H2.out
            go_wp2
            go_roundw
            case rel =>
              refine ⟨7, by omega, by go_num, ?_, ?_, ?_, ?_⟩
              · rw [show c.rung 7 = c.rung 6 from by rw [show (7 : Nat) = 6 + 1 from rfl, Ck.rung_succ, if_neg (show ¬ c.get ((6 : Nat) : Int) = 1 from H2.out)]; simp]
                exact ((HR.out.below hb_w2).chg (chg1 w2 b 6 (.int .i64 (c.c6 - 1))) (fun g hg => by simp only [List.mem_singleton]; rintro rfl; exact HNO.out hg))
              · exact HOW.out
              · show Blk _ b (Ck.cells _) _
                rw [show (7 : Nat) = 6 + 1 from rfl, Ck.upto_dn c 6 (by omega) h1]
                exact (HK.out.below hb_w2).set 6 _
              · exact (HCH.out.below hb_w2).then (chg1 w2 b 6 _)
            case measure => simp [intOf]
        · have h1' : c.c6 ≤ 0 := by omega
          have k2' : (c.c6 == 1) = false := beq_eq_false_iff_ne.2 (by omega)
          clear hc
          go_wp2
          go_roundw
          case rel =>
            refine ⟨7, by omega, by go_num, ?_, ?_, ?_, ?_⟩
            · rw [show c.rung 7 = c.rung 6 from by rw [show (7 : Nat) = 6 + 1 from rfl, Ck.rung_succ, if_neg (show ¬ c.get ((6 : Nat) : Int) = 1 from by have : c.get ((6 : Nat) : Int) = c.c6 := rfl; omega)]; simp]
              exact HR.out
            · exact HOW.out
            · show Blk _ b (Ck.cells _) _
              rw [show (7 : Nat) = 6 + 1 from rfl, Ck.upto_no c 6 (by omega) h1]
              exact HK.out
            · exact HCH.out
          case measure => simp [intOf]
      · obtain rfl : ki = 7 := hki.symm
        clear hki
        have hix : ∀ w : World, (Instr.index 22 (.agg #[.int .i64 c.c0, .int .i64 c.c1, .int .i64 c.c2, .int .i64 c.c3, .int .i64 c.c4, .int .i64 c.c5, .int .i64 c.c6, .int .i64 c.c7]) (.int .i64 7)).run Tryz.prog w = .ok (.int .i64 c.c7) w := fun _ => by kernel_rfl
        have K1 : Blk wr b #[.int .i64 (dn c.c0), .int .i64 (dn c.c1), .int .i64 (dn c.c2), .int .i64 (dn c.c3), .int .i64 (dn c.c4), .int .i64 (dn c.c5), .int .i64 (dn c.c6), .int .i64 c.c7] 210 := HK.out.as (by simp [Ck.upto])
        have hb0 : 0 ≤ c.c7 ∧ c.c7 ≤ 4294967296 := Ck.get_ok HO.out 7
        clear hlt
        by_cases h1 : 0 < c.c7
        · by_cases h2 : c.c7 = 1
          · have H2 := Lib.hid h2
            clear h2 hc
            go_wp2
            refine wp_region_up_tail 10 (by kernel_rfl) (by kernel_rfl) ?_
            simp only [List.take_succ_cons, List.take_zero, List.drop_succ_cons, List.drop_zero]
            have up_K1 := fun (g : Up _) => (Blk.below K1 g.ok).c
            repeat (go_big_quiet_step (fail))
            refine wpQuiet_nil ?_
            clear up_K1
            refine up_elim (fun w2 hb_w2 => ?_)
            have K2 := Lib.hid (Blk.below K1 hb_w2)
            have k2c := K2.out.c
            have k2f := K2.out.f
            clear K1
            have k2' : (c.c7 == 1) = true := by simp [H2.out]
            have R3 := Lib.hid (((HR.out.below hb_w2).chg (chg1 w2 b 7 (.int .i64 (c.c7 - 1))) (fun g hg => by simp only [List.mem_singleton]; rintro rfl; exact HNO.out hg)).below (bl_alloc (bl_refl _) (.cells #[.int .i64 7] 3)))
            have N4 := Lib.hid (Blk.newAt (w := w2.setCell ⟨b, 7, none⟩ (.int .i64 (c.c7 - 1))) (n := w2.heap.size) (by simp [World.setCell]) #[.int .i64 7] 3)
            go_wp2_with (first
              | ((refine wpList_row_append _ rfl (.tmp 31) (.tmp 33) 162 rfl 3 Tryz.t3 (.int .i64 0) 1 8 Tryz.underlying162 rfl rfl rfl rfl rfl (by decide) (.slice al (c.rung 7).length cl) (c.rung 7).length ((c.rung 7).map (Value.int .i64)) rfl R3.out ⟨w2.heap.size, 0, none⟩ 1 1 [.int .i64 7] rfl rfl (fun j u hu => by rw [Addr.add_lit, N4.out.c, Nat.zero_add]; simpa using hu) (by simp [Value.oneCell']) (by decide) (by simp [maxLen]; omega) (by omega) ?_); intro v5 w5 R5 G5 O5))
            go_roundw
            case rel =>
              refine ⟨8, by omega, by go_num, ?_, ?_, ?_, ?_⟩
              · rw [show c.rung 8 = c.rung 7 ++ [7] from by rw [show (8 : Nat) = 7 + 1 from rfl, Ck.rung_succ, if_pos (show c.get ((7 : Nat) : Int) = 1 from H2.out)]; rfl]
                simpa using R5
              · intro g hg
                rcases O5 g hg with h | h
                · exact HOW.out g h
                · have e1 := HCH.out.size
                  have e2 := hb_w2.size
                  simp [World.setCell] at h
                  omega
              · show Blk w5 b (Ck.cells _) _
                rw [show (8 : Nat) = 7 + 1 from rfl, Ck.upto_dn c 7 (by omega) h1]
                exact (((HK.out.below hb_w2).set 7 _).alloc _).chg G5 HNO.out
              · exact ((HCH.out.below hb_w2).then (chg1 w2 b 7 _)).trans (Chg.of_below (bl_alloc (bl_refl _) _) [b]) (by simp) |>.trans G5 (fun g hg => .inr (HOW.out g hg))
            case measure => simp [intOf]
          · have H2 := Lib.hid h2
            clear h2 hc
            go_wp2
            refine wp_region_up_tail 10 (by kernel_rfl) (by kernel_rfl) ?_
            simp only [List.take_succ_cons, List.take_zero, List.drop_succ_cons, List.drop_zero]
            have up_K1 := fun (g : Up _) => (Blk.below K1 g.ok).c
            repeat (go_big_quiet_step (fail))
            refine wpQuiet_nil ?_
            clear up_K1
            refine up_elim (fun w2 hb_w2 => ?_)
            have K2 := Lib.hid (Blk.below K1 hb_w2)
            have k2c := K2.out.c
            have k2f := K2.out.f
            clear K1
            have k2' : (c.c7 == 1) = false := beq_eq_false_iff_ne.2 H2.out
            go_wp2
            go_roundw
            case rel =>
              refine ⟨8, by omega, by go_num, ?_, ?_, ?_, ?_⟩
              · rw [show c.rung 8 = c.rung 7 from by rw [show (8 : Nat) = 7 + 1 from rfl, Ck.rung_succ, if_neg (show ¬ c.get ((7 : Nat) : Int) = 1 from H2.out)]; simp]
                exact ((HR.out.below hb_w2).chg (chg1 w2 b 7 (.int .i64 (c.c7 - 1))) (fun g hg => by simp only [List.mem_singleton]; rintro rfl; exact HNO.out hg))
              · exact HOW.out
              · show Blk _ b (Ck.cells _) _
                rw [show (8 : Nat) = 7 + 1 from rfl, Ck.upto_dn c 7 (by omega) h1]
                exact (HK.out.below hb_w2).set 7 _
              · exact (HCH.out.below hb_w2).then (chg1 w2 b 7 _)
            case measure => simp [intOf]
        · have h1' : c.c7 ≤ 0 := by omega
          have k2' : (c.c7 == 1) = false := beq_eq_false_iff_ne.2 (by omega)
          clear hc
          go_wp2
          go_roundw
          case rel =>
            refine ⟨8, by omega, by go_num, ?_, ?_, ?_, ?_⟩
            · rw [show c.rung 8 = c.rung 7 from by rw [show (8 : Nat) = 7 + 1 from rfl, Ck.rung_succ, if_neg (show ¬ c.get ((7 : Nat) : Int) = 1 from by have : c.get ((7 : Nat) : Int) = c.c7 := rfl; omega)]; simp]
              exact HR.out
            · exact HOW.out
            · show Blk _ b (Ck.cells _) _
              rw [show (8 : Nat) = 7 + 1 from rfl, Ck.upto_no c 7 (by omega) h1]
              exact HK.out
            · exact HCH.out
          case measure => simp [intOf]
    · have : k = 8 := by omega
      subst this
      rw [Ck.upto_8] at hbk
      rw [Ck.rung_8] at hr ho ⊢
      have HR := Lib.hid hr
      have HOW := Lib.hid ho
      have HK := Lib.hid hbk
      have HCH := Lib.hid hch
      clear hr ho hbk hch
      go_wp2
      go_ret
      exact ⟨_, rfl, HR.out, HOW.out, HK.out, HCH.out⟩
end Go.Proofs.YtcllbmjmefeknaaGreatK
