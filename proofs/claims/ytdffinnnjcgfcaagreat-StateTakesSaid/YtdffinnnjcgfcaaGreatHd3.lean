/- The walks of package hold, continued. -/
import Derived.Test.YtdffinnnjcgfcaaGreatHd2
import Derived.OwnWalk
namespace Go.Proofs.YtdffinnnjcgfcaaGreatK
open Go Go.RowKit
set_option linter.unusedVariables false
set_option maxHeartbeats 1000000
set_option maxRecDepth 100000
theorem HLast_c {w : World} {b : Nat} {h : Ho} {vs vn : Value} (hh : HoAt w b h vs vn) (ho : h.ok) :
    Calls Tryz.prog 148 #[.pointer (some ⟨b, 0, none⟩)] w fun e w' => e = .returned (.int .u8 h.last) ∧ Below w.heap.size w w' := by
  obtain ⟨a1, c1, rfl, _⟩ := hh.sent.shape
  have hblk := hh.blk
  have hc := hblk.c
  have l1 := ho.sent
  have l2 := ho.first
  have D := Lib.hid fun g : Up w => At_c (h.first + h.sent.length - 1) g.val
  have e : h.last = (h.first + h.sent.length - 1) % 128 := rfl
  clear hh ho
  go_enter Tryz.func148, Tryz.ntmps148
  go_wp2
  refine wp_region_up (by kernel_rfl) (by kernel_rfl) ?_
  have up_hblk := fun (g : Up _) => (Blk.below hblk g.ok).c
  repeat (go_big_quiet_step (with_reducible exact Up.calls_same _ (D.out _)))
  refine wpQuiet_nil ?_
  clear up_hblk
  refine up_elim (fun w2 hb_w2 => ?_)
  go_wp2
  go_ret
  exact ⟨rfl, hb_w2⟩
theorem HKnows_c {w : World} {b : Nat} {h : Ho} {vs vn : Value} (hh : HoAt w b h vs vn) (ho : h.ok) (n : Int) (h0 : 0 ≤ n) (h1 : n ≤ 255) :
    Calls Tryz.prog 128 #[.pointer (some ⟨b, 0, none⟩), .int .u8 n] w fun e w' => e = .returned (.bool (h.knows n)) ∧ Below w.heap.size w w' := by
  have l2 := ho.first
  have hc := hh.blk.c
  have D1 := Lib.hid (show Calls Tryz.prog 130 #[.int .u8 h.first] w (fun e w' => e = .returned (.int .u8 h.prev) ∧ w = w') from Prev_c h.first w (by omega) (by omega))
  have D2 := Lib.hid (HLast_c hh ho)
  have D3 := Lib.hid fun w' => Within_c n h.prev h.last w' h0 h1 (by simp only [Ho.prev]; omega) (by simp only [Ho.prev]; omega) (by simp only [Ho.last]; omega) (by simp only [Ho.last]; omega)
  clear hh ho
  by_cases hn : n < 128
  · go_enter Tryz.func128, Tryz.ntmps128
    go_wp2_with (first
      | ((with_reducible refine D1.out.mono ?_); rintro e w1 ⟨rfl, rfl⟩)
      | ((with_reducible refine D2.out.mono ?_); rintro e w2 ⟨rfl, hb2⟩)
      | ((with_reducible refine (D3.out _).mono ?_); rintro e w3 ⟨rfl, rfl⟩))
    go_ret
    exact ⟨by simp [Ho.knows, hn], hb2⟩
  · go_enter Tryz.func128, Tryz.ntmps128
    go_wp2
    go_ret
    exact ⟨by simp [Ho.knows]; omega, bl_refl _⟩
theorem HFlush_c {w : World} {b : Nat} {h : Ho} {vs vn : Value} (hh : HoAt w b h vs vn) :
    Calls Tryz.prog 73 #[.pointer (some ⟨b, 0, none⟩)] w fun e w' => e = .returned (.int .i64 h.next.length) ∧ HoAt w' b h.flush vs (.slice none 0 0) ∧ Chg [b] w w' := by
  obtain ⟨a1, c1, rfl, _⟩ := hh.next.shape
  have hc := hh.blk.c
  have hf := hh.blk.f
  have HH := Lib.hid hh
  clear hh
  go_enter Tryz.func73, Tryz.ntmps73
  go_wp2
  go_ret
  exact ⟨rfl, HoAt.mk4 HH.out.blk HH.out.sent ⟨[], Row.nil _ _ _, by simp⟩ (by simp [own, Value.ownBlock]), (Chg.refl _ _).set (by simp) _⟩
theorem HClear_c {w : World} {b : Nat} {h : Ho} {vs vn : Value} (hh : HoAt w b h vs vn) :
    Calls Tryz.prog 180 #[.pointer (some ⟨b, 0, none⟩)] w fun e w' => e = .returned (.tuple #[]) ∧ HoAt w' b h.clear (.slice none 0 0) (.slice none 0 0) ∧ Chg [b] w w' := by
  have hc := hh.blk.c
  have hf := hh.blk.f
  have HB := Lib.hid hh.blk
  clear hh
  go_enter Tryz.func180, Tryz.ntmps180
  go_wp2
  go_end0
  exact ⟨rfl, ⟨(((HB.out.set 2 _).set 4 _).set 3 _).as (by simp [Ho.clear]), ⟨[], Row.nil _ _ _, by simp [Ho.clear]⟩, ⟨[], Row.nil _ _ _, by simp [Ho.clear]⟩, by simp [own, Value.ownBlock]⟩, (((Chg.refl [b] w).set (by simp) _).set (by simp) _).set (by simp) _⟩
theorem HNew_c (most oc : Int) (w : World) :
    Calls Tryz.prog 146 #[.int .i64 most, .int .i64 oc] w fun e w' => ∃ b, e = .returned (.pointer (some ⟨b, 0, none⟩)) ∧ w.heap.size ≤ b ∧ HoAt w' b (Ho.none most oc) (.slice none 0 0) (.slice none 0 0) ∧ Below w.heap.size w w' := by
  go_enter Tryz.func146, Tryz.ntmps146
  go_wp2
  go_ret
  exact ⟨_, rfl, Nat.le_refl _, ⟨Blk.new _ _ _, ⟨[], Row.nil _ _ _, by simp [Ho.none]⟩, ⟨[], Row.nil _ _ _, by simp [Ho.none]⟩, by simp [own, Value.ownBlock]⟩, bl_alloc (bl_refl _) _⟩
theorem HAt_c {w : World} {b : Nat} {h : Ho} {vs vn : Value} (hh : HoAt w b h vs vn) (ho : h.ok) (i : Int) (hi0 : -1 ≤ i) (hi1 : i ≤ 1000) :
    Calls Tryz.prog 196 #[.pointer (some ⟨b, 0, none⟩), .int .i64 i] w fun e w' => ∃ v, e = .returned (.tuple #[.int .u8 (h.at i).1, v, .int .i64 (h.at i).2.2]) ∧ BytV w' v (h.at i).2.1 ∧ Below w.heap.size w w' ∧ ∀ g ∈ own v, w.heap.size ≤ g := by
  have D := Lib.hid (HSent_c hh)
  have l1 := ho.sent
  have l2 := ho.first
  by_cases h0 : i < 0
  · clear hh ho
    go_enter Tryz.func196, Tryz.ntmps196
    go_wp2
    go_ret3
    have e : h.at i = (0, [], 2) := by unfold Ho.at; rw [if_neg (by omega)]
    rw [e]
    exact ⟨_, rfl, ⟨Row.nil _ _ _, by simp⟩, bl_refl _, by simp [own, Value.ownBlock]⟩
  by_cases h1 : (h.sent.length : Int) ≤ i
  · clear hh ho
    go_enter Tryz.func196, Tryz.ntmps196
    go_wp2_with (first | ((with_reducible refine D.out.mono ?_); rintro e w1 ⟨rfl, rfl⟩))
    go_ret3
    have e : h.at i = (0, [], 2) := by unfold Ho.at; rw [if_neg (by omega)]
    rw [e]
    exact ⟨_, rfl, ⟨Row.nil _ _ _, by simp⟩, bl_refl _, by simp [own, Value.ownBlock]⟩
  obtain ⟨vss, Rs, Ms⟩ := hh.sent
  obtain ⟨u, hu, hB⟩ := Ms i.toNat h.sent[i.toNat] (List.getElem?_eq_getElem (by omega))
  have hlong := ho.lons _ (List.getElem_mem (show i.toNat < h.sent.length by omega))
  rcases Rs.2 with ⟨rfl, hn⟩ | ⟨bl, off, cap, cs, rfl, h3, h4, h5, h6, h7⟩
  · omega
  have hcell := h7 _ _ hu
  have hblk := hh.blk
  have hc := hblk.c
  have D1 := Lib.hid fun g : Up w => At_c (h.first + i) g.val
  have DB := Lib.hid hB
  have cell : ∀ g : Up w, g.val.cell? ⟨bl, off + i.toNat, none⟩ = some u := fun g => by rw [(h5.below g.ok).c]; exact hcell
  clear hh ho Ms Rs hB h7 h5
  go_enter Tryz.func196, Tryz.ntmps196
  go_wp2_with (first | ((with_reducible refine D.out.mono ?_); rintro e w1 ⟨rfl, rfl⟩))
  refine wp_region_up_tail 15 (by kernel_rfl) (by kernel_rfl) ?_
  simp only [List.take_succ_cons, List.take_zero, List.drop_succ_cons, List.drop_zero]
  have up_hblk := fun (g : Up _) => (Blk.below hblk g.ok).c
  repeat (go_big_quiet_step (with_reducible exact Up.calls_same _ (D1.out _)))
  refine wpQuiet_nil ?_
  clear up_hblk
  refine up_elim (fun w2 hb_w2 => ?_)
  go_wp2_with (first | ((with_reducible refine (Clone_c (DB.out.below hb_w2).i0 (by omega)).mono ?_); rintro e w3 ⟨v3, rfl, B3, hb3, own3⟩))
  go_ret3
  have e : h.at i = ((h.first + i) % 128, h.sent[i.toNat], 0) := by
    unfold Ho.at
    rw [if_pos (by omega)]
    simp [List.getD_eq_getElem?_getD, List.getElem?_eq_getElem (show i.toNat < h.sent.length by omega)]
  rw [e]
  exact ⟨_, rfl, B3, bl_then hb_w2 hb3, fun g hg => by have := own3 g hg; have := hb_w2.size; omega⟩
end Go.Proofs.YtdffinnnjcgfcaaGreatK
