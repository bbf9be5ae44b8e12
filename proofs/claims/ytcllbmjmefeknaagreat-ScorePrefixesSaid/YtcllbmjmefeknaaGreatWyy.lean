/- The walks of package way, and of the small functions New. -/
import Derived.Test.YtcllbmjmefeknaaGreatSta
namespace Go.Proofs.YtcllbmjmefeknaaGreatK
open Go Go.RowKit
set_option linter.unusedVariables false
set_option maxHeartbeats 1000000
set_option maxRecDepth 100000
theorem JNew_c (s : Su) (bc : Nat) (w : World) :
    Calls Tryz.prog 114 #[s.v, .pointer (some ⟨bc, 0, none⟩)] w fun e w' => ∃ b, e = .returned (.pointer (some ⟨b, 0, none⟩)) ∧ w.heap.size ≤ b ∧ JmAt w' b s bc ⟨false, false, false⟩ ∧ Below w.heap.size w w' := by
  go_enter Tryz.func114, Tryz.ntmps114
  go_wp2
  go_ret
  exact ⟨_, rfl, by simp, Blk.newAt (by simp) _ _, bl_alloc (bl_alloc (bl_refl _) _) _⟩
theorem ANew_c (s : Su) (bc : Nat) (w : World) :
    Calls Tryz.prog 113 #[s.v, .pointer (some ⟨bc, 0, none⟩)] w fun e w' => ∃ b, e = .returned (.pointer (some ⟨b, 0, none⟩)) ∧ w.heap.size ≤ b ∧ AlAt w' b s bc ⟨0, false, false, ⟨false, 0, 0⟩⟩ ∧ Below w.heap.size w w' := by
  go_enter Tryz.func113, Tryz.ntmps113
  go_wp2
  go_ret
  exact ⟨_, rfl, by simp, Blk.newAt (by simp) _ _, bl_alloc (bl_alloc (bl_refl _) _) _⟩
theorem WNew_c (s : Su) (w : World) :
    Calls Tryz.prog 115 #[s.v] w fun e w' => ∃ b bh, e = .returned ((Wy.of s).v b) ∧ w.heap.size ≤ b ∧ w.heap.size ≤ bh ∧ HoAt w' bh (Ho.none s.hd s.oc) nil0 nil0 ∧ WyAt w' b bh (Wy.of s) ∧ Below w.heap.size w w' := by
  obtain ⟨cyc, n1, n2, hd, oc, t0, t1, t2, t3, t4, t5, t6, t7⟩ := s
  cases cyc
  · go_enter Tryz.func115, Tryz.ntmps115
    go_wp2_with (first | ((with_reducible refine (BNew_c hd oc _).mono ?_); rintro e w2 ⟨b, bh, rfl, h1, h2, h3, h4, h5⟩))
    go_ret
    exact ⟨b, bh, rfl, by simp at h1; omega, by simp at h2; omega, h3, h4, bl_then (bl_alloc (bl_refl _) _) h5⟩
  · go_enter Tryz.func115, Tryz.ntmps115
    go_wp2_with (first | ((with_reducible refine (CNew_c hd oc n1 n2 _).mono ?_); rintro e w2 ⟨b, bh, rfl, h1, h2, h3, h4, h5⟩))
    go_ret
    exact ⟨b, bh, rfl, by simp at h1; omega, by simp at h2; omega, h3, h4, bl_then (bl_alloc (bl_refl _) _) h5⟩
theorem mB_Hold (b : Nat) (w : World) : (method 408 239 (.pointer (some ⟨b, 0, none⟩)) "Hold").run Tryz.prog w = .ok (248, .pointer (some ⟨b, 0, none⟩)) w := by kernel_rfl
theorem mB_Taken (b : Nat) (w : World) : (method 408 239 (.pointer (some ⟨b, 0, none⟩)) "Taken").run Tryz.prog w = .ok (253, .pointer (some ⟨b, 0, none⟩)) w := by kernel_rfl
theorem mB_Fill (b : Nat) (w : World) : (method 408 239 (.pointer (some ⟨b, 0, none⟩)) "Fill").run Tryz.prog w = .ok (247, .pointer (some ⟨b, 0, none⟩)) w := by kernel_rfl
theorem mB_Next (b : Nat) (w : World) : (method 408 239 (.pointer (some ⟨b, 0, none⟩)) "Next").run Tryz.prog w = .ok (249, .pointer (some ⟨b, 0, none⟩)) w := by kernel_rfl
theorem mB_Answer (b : Nat) (w : World) : (method 408 239 (.pointer (some ⟨b, 0, none⟩)) "Answer").run Tryz.prog w = .ok (246, .pointer (some ⟨b, 0, none⟩)) w := by kernel_rfl
theorem mB_Take (b : Nat) (w : World) : (method 408 239 (.pointer (some ⟨b, 0, none⟩)) "Take").run Tryz.prog w = .ok (252, .pointer (some ⟨b, 0, none⟩)) w := by kernel_rfl
theorem mB_Reset (b : Nat) (w : World) : (method 408 239 (.pointer (some ⟨b, 0, none⟩)) "Reset").run Tryz.prog w = .ok (251, .pointer (some ⟨b, 0, none⟩)) w := by kernel_rfl
theorem mC_Hold (b : Nat) (w : World) : (method 408 237 (.pointer (some ⟨b, 0, none⟩)) "Hold").run Tryz.prog w = .ok (230, .pointer (some ⟨b, 0, none⟩)) w := by kernel_rfl
theorem mC_Taken (b : Nat) (w : World) : (method 408 237 (.pointer (some ⟨b, 0, none⟩)) "Taken").run Tryz.prog w = .ok (235, .pointer (some ⟨b, 0, none⟩)) w := by kernel_rfl
theorem mC_Fill (b : Nat) (w : World) : (method 408 237 (.pointer (some ⟨b, 0, none⟩)) "Fill").run Tryz.prog w = .ok (229, .pointer (some ⟨b, 0, none⟩)) w := by kernel_rfl
theorem mC_Next (b : Nat) (w : World) : (method 408 237 (.pointer (some ⟨b, 0, none⟩)) "Next").run Tryz.prog w = .ok (231, .pointer (some ⟨b, 0, none⟩)) w := by kernel_rfl
theorem mC_Answer (b : Nat) (w : World) : (method 408 237 (.pointer (some ⟨b, 0, none⟩)) "Answer").run Tryz.prog w = .ok (228, .pointer (some ⟨b, 0, none⟩)) w := by kernel_rfl
theorem mC_Take (b : Nat) (w : World) : (method 408 237 (.pointer (some ⟨b, 0, none⟩)) "Take").run Tryz.prog w = .ok (234, .pointer (some ⟨b, 0, none⟩)) w := by kernel_rfl
theorem mC_Reset (b : Nat) (w : World) : (method 408 237 (.pointer (some ⟨b, 0, none⟩)) "Reset").run Tryz.prog w = .ok (233, .pointer (some ⟨b, 0, none⟩)) w := by kernel_rfl
theorem WStatus_c {w : World} {b : Nat} {x : St} {L : Lay} (h : StAt w b x L) (ho : x.h.ok) (i : Int) :
    Calls Tryz.prog 152 #[x.w.v L.bw, .int .u8 i] w fun e w' => e = .returned ((x.stat i).v nil0) ∧ Below w.heap.size w w' := by
  have N1 := Lib.hid (Blk.new w Un.zeros 188)
  have H1 := Lib.hid (h.below (bl_alloc (bl_refl w) (.cells Un.zeros 188)))
  obtain ⟨s, S, c, a, j, o, wy, oa, leak, told, fails⟩ := x
  clear h
  cases wy
  · rename_i y
    obtain ⟨u, hu⟩ : ∃ u, St.fill ⟨s, S, c, a, j, o, .bs y, oa, leak, told, fails⟩ = u := ⟨_, rfl⟩
    have CF := BFill_c H1.out.wy H1.out.ho ho
    rw [show y.head o.last = u from hu] at CF
    rw [show St.stat ⟨s, S, c, a, j, o, .bs y, oa, leak, told, fails⟩ i = { u with kind := 1, status := i } from by rw [← hu]; rfl]
    have HF := Lib.hid CF
    clear CF hu H1
    obtain ⟨bsn, fsn, bib, fib, kind, status, wide, info⟩ := u
    obtain ⟨bc, ba, bj, bw, bh, vs, vn, vt⟩ := L
    have hm := mB_Fill
    show Calls Tryz.prog 152 #[.iface 239 (.pointer (some ⟨bw, 0, none⟩)), .int .u8 i] w _
    go_enter Tryz.func152, Tryz.ntmps152
    go_wp2_with (first | ((with_reducible refine HF.out.mono ?_); rintro e w2 ⟨rfl, hb2⟩; (have n1c := (N1.out.below hb2).c); (have n1f := (N1.out.below hb2).f); (have n1 := Lib.hid (N1.out.below hb2)); (have lt2 : w.heap.size < w2.heap.size := N1.out.below hb2 |>.lt); (have ne2 : w.heap.size ≠ w2.heap.size := Nat.ne_of_lt lt2); (have HB := Lib.hid (bl_then (bl_alloc (bl_refl w) _) hb2))))
    exact bodyPost_ret (res_c rfl Un.laid rfl ((n1.out.all8 _ _ _ _ _ _ _ _).alloc _) rfl) rfl ⟨rfl, bl_alloc (bl_all8 HB.out (Nat.le_refl _) _ _ _ _ _ _ _ _) _⟩
  · rename_i y
    obtain ⟨u, hu⟩ : ∃ u, St.fill ⟨s, S, c, a, j, o, .cy y, oa, leak, told, fails⟩ = u := ⟨_, rfl⟩
    have CF := CFill_c H1.out.wy H1.out.ho ho
    rw [show y.head o.last = u from hu] at CF
    rw [show St.stat ⟨s, S, c, a, j, o, .cy y, oa, leak, told, fails⟩ i = { u with kind := 1, status := i } from by rw [← hu]; rfl]
    have HF := Lib.hid CF
    clear CF hu H1
    obtain ⟨bsn, fsn, bib, fib, kind, status, wide, info⟩ := u
    obtain ⟨bc, ba, bj, bw, bh, vs, vn, vt⟩ := L
    have hm := mC_Fill
    show Calls Tryz.prog 152 #[.iface 237 (.pointer (some ⟨bw, 0, none⟩)), .int .u8 i] w _
    go_enter Tryz.func152, Tryz.ntmps152
    go_wp2_with (first | ((with_reducible refine HF.out.mono ?_); rintro e w2 ⟨rfl, hb2⟩; (have n1c := (N1.out.below hb2).c); (have n1f := (N1.out.below hb2).f); (have n1 := Lib.hid (N1.out.below hb2)); (have lt2 : w.heap.size < w2.heap.size := N1.out.below hb2 |>.lt); (have ne2 : w.heap.size ≠ w2.heap.size := Nat.ne_of_lt lt2); (have HB := Lib.hid (bl_then (bl_alloc (bl_refl w) _) hb2))))
    exact bodyPost_ret (res_c rfl Un.laid rfl ((n1.out.all8 _ _ _ _ _ _ _ _).alloc _) rfl) rfl ⟨rfl, bl_alloc (bl_all8 HB.out (Nat.le_refl _) _ _ _ _ _ _ _ _) _⟩
end Go.Proofs.YtcllbmjmefeknaaGreatK
