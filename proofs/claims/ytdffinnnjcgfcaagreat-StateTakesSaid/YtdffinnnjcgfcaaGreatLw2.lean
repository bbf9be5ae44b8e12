/- The walks of awake, wait (layer 17's laws). -/
import Derived.Test.YtdffinnnjcgfcaaGreatLw1
namespace Go.Proofs.YtdffinnnjcgfcaaGreatK
open Go Go.RowKit
set_option linter.unusedVariables false
set_option maxHeartbeats 600000
set_option maxRecDepth 100000
theorem awake_c (w : World) : Calls Tryz.prog 24 #[] w fun e w' => e = .returned (.bool true) ∧ Below w.heap.size w w' := by
  have HQ := Lib.hid (fun w => quick_c false w)
  have HS0 := Lib.hid (fun w => serving_c false w)
  have HS1 := Lib.hid (fun w => serving_c true w)
  obtain ⟨x1, hx1⟩ : ∃ x1, ((born false).order 1 []).1 = x1 := ⟨_, rfl⟩
  have e0 : ((born false).order 1 []).2 = 0 := by kernel_rfl
  have e1 : x1.S = 1 := by rw [← hx1]; kernel_rfl
  have e2 : x1.next = (x1, ⟨127, 127, true, true, 1, 0, false, []⟩) := by rw [← hx1]; kernel_rfl
  have E0 := Lib.hid e0
  have E1 := Lib.hid e1
  have E2 := Lib.hid e2
  have X1 := Lib.hid hx1
  clear e0 e1 e2 hx1
  go_enter Tryz.func24, Tryz.ntmps24
  go_wp2_with (first
    | ((with_reducible refine (HQ.out _).mono ?_); rintro e w1 ⟨rfl, hb1⟩)
    | ((with_reducible refine (NewL_c false _).mono ?_); rintro e w2 ⟨b, rfl, V0⟩; have V := Lib.hid (V0.base hb1); clear V0)
    | ((with_reducible refine (V.out.order0 1 (by decide)).mono ?_); rintro e w3 ⟨he, V1, _⟩; (rw [E0.out] at he); subst he; (rw [X1.out] at V1); have Va := Lib.hid V1; clear V1)
    | ((with_reducible refine (Va.out.next).mono ?_); rintro e w4 ⟨vi, he, V1, V2, _⟩; (rw [E2.out] at he V1 V2); (obtain ⟨ai, ci, rfl, _⟩ := V1.1.shape); subst he; (have c4 := V2.v.S); (rw [E1.out] at c4); (have HB4 := Lib.hid V2.v.bel); (have l4 := V2.lt); (have n4 : b ≠ w4.heap.size := Nat.ne_of_lt l4); clear V1 V2)
    | ((with_reducible refine (HS0.out _).mono ?_); rintro e w5 ⟨b5, rfl, V5⟩; (have HB5 := Lib.hid V5.v.bel); clear V5)
    | ((with_reducible refine (HS1.out _).mono ?_); rintro e w6 ⟨b6, rfl, V6⟩; (have HB6 := Lib.hid V6.v.bel); clear V6))
  go_ret
  exact ⟨rfl, bl_then (bl_then (bl_alloc HB4.out _) HB5.out) HB6.out⟩
theorem wait_c {w0 w : World} {b : Nat} {x : St} {m : Int} (V : Lk w0 w b x m) (n : Nat) (hm : m + 8 * n ≤ 700000) (h0 : 0 ≤ m) :
    Calls Tryz.prog 37 #[.pointer (some ⟨b, 0, none⟩), .int .i64 n] w fun e w' => e = .returned (.tuple #[]) ∧ Lk w0 w' b (x.ticks n) (m + 8 * n) := by
  have HV := Lib.hid V
  clear V
  go_enter Tryz.func37, Tryz.ntmps37
  go_wp2
  go_loopw [4] (fun i wr => ∃ k : Nat, k ≤ n ∧ i = .int .i64 k ∧ Lk w0 wr b (x.ticks k) (m + 8 * k)) (fun i _ => n - (intOf i).toNat)
  case atStart => exact ⟨0, by omega, rfl, ⟨HV.out.v, HV.out.k, HV.out.f.le (by omega)⟩⟩
  case round =>
    obtain ⟨k, hk, rfl, V9⟩ := hrel
    have V := Lib.hid V9
    clear V9
    by_cases hlt : k < n
    · have hlt' : (k : Int) < n := by omega
      have HT := Lib.hid (V.out.tick (by omega))
      go_wp2_with (first | ((with_reducible refine HT.out.mono ?_); rintro e w8 ⟨rfl, V1, _⟩; have Vf := Lib.hid V1; clear V1))
      go_roundw
      case rel => exact ⟨k + 1, by omega, by go_num, ⟨Vf.out.v, Vf.out.k, Vf.out.f.le (by omega)⟩⟩
      case measure => simp [intOf]; omega
    · obtain rfl : k = n := by omega
      go_wp2
      go_end0
      exact ⟨rfl, V.out⟩
theorem byt_new3 {w : World} {x y z : Int} (hx : 0 ≤ x ∧ x ≤ 255) (hy : 0 ≤ y ∧ y ≤ 255) (hz : 0 ≤ z ∧ z ≤ 255) : BytV (w.alloc (.cells #[.int .u8 x, .int .u8 y, .int .u8 z] 5)) (.slice (some ⟨w.heap.size, 0, none⟩) 3 3) [x, y, z] := by
  refine ⟨⟨by simp, .inr ⟨w.heap.size, 0, 3, _, rfl, by simp, by simp [maxLen], Blk.new _ _ _, by simp, fun j u hu => ?_⟩⟩, fun v hv => ?_⟩
  · simpa using hu
  · simp only [List.mem_cons, List.not_mem_nil, or_false] at hv
    rcases hv with rfl | rfl | rfl
    · exact hx
    · exact hy
    · exact hz
section
variable {w0 w : World} {b : Nat} {x : St} {n : Int}
theorem Lk.ck (h : Lk w0 w b x n) : ∃ bc, w.cell? ⟨b, 14, none⟩ = some (.pointer (some ⟨bc, 0, none⟩)) ∧ CkAt w bc x.c := by
  obtain ⟨L, S, F⟩ := h.v.lay
  exact ⟨L.bc, by rw [S.st.c]; rfl, S.ck⟩
theorem Lk.hold (h : Lk w0 w b x n) : ∃ bw bh vs vn, w.cell? ⟨b, 17, none⟩ = some (x.w.v bw) ∧ WyAt w bw bh x.w ∧ HoAt w bh x.h vs vn := by
  obtain ⟨L, S, F⟩ := h.v.lay
  exact ⟨L.bw, L.bh, L.vs, L.vn, by rw [S.st.c]; rfl, S.wy, S.ho⟩
theorem Lk.S (h : Lk w0 w b x n) : w.cell? ⟨b, 0, none⟩ = some (.int .u8 x.S) := h.v.S
end
end Go.Proofs.YtdffinnnjcgfcaaGreatK
