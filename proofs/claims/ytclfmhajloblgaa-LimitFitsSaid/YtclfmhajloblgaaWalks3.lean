/- The walks of the functions of layer 22 that reckon with a setup's numbers: within how many ticks. -/
import Derived.Test.YtclfmhajloblgaaWalks
namespace Go.Proofs.Ytclfmhajloblgaa
open Go.RowKit Go.Proofs.YtclfmhajloblgaaK
set_option maxHeartbeats 1000000
set_option maxRecDepth 100000
def ansN (m o : Int) : Int := mx m * 12 + unit_ (mx o) + 674
def ans_ (c : Bool) (d m o : Int) : Int := if c then 2 * ((ansN m o + 2 * way_ d) * (mx m + 2)) + 4 * way_ d else 2 * ansN m o + 4 * way_ d
theorem answered_c (c : Bool) (t : Ti) (d m o : Int) (w : World) (hd : d ≤ 1000000) (hm : m ≤ 100000) (ho : o ≤ 1000000) : Calls Try.prog 13 #[suV c t, .int .i64 d, .int .i64 m, .int .i64 o] w fun e w' => e = .returned (.int .i64 (ans_ c d m o)) ∧ Below w.heap.size w w' := by
  have wb : 676 ≤ way_ d ∧ way_ d ≤ 1000000 := by
    have := mx_bd d
    unfold way_; omega
  have ub : 1 ≤ unit_ (mx o) ∧ unit_ (mx o) ≤ 4000000 := by
    have := mx_bd o
    have h2 := mx_bd (mx o)
    unfold unit_; omega
  obtain ⟨W, hW⟩ : ∃ W, way_ d = W := ⟨_, rfl⟩
  rw [hW] at wb
  obtain ⟨p, hp⟩ : ∃ p, mx o = p := ⟨_, rfl⟩
  have hb2 := mx_bd o
  rw [hp] at ub hb2
  obtain ⟨u, hu⟩ : ∃ u, unit_ p = u := ⟨_, rfl⟩
  rw [hu] at ub
  obtain ⟨q, hq⟩ : ∃ q, mx m = q := ⟨_, rfl⟩
  have hb := mx_bd m
  rw [hq] at hb
  have b1 : 0 ≤ q := by omega
  have b2 : q ≤ 100000 := by omega
  have p1 : 0 ≤ p := by omega
  have p2 : p ≤ 1000000 := by omega
  have C8 : Hid (∀ w : World, Calls Try.prog 11 #[.int .i64 8] w fun e w' => e = .returned (.int .i64 12) ∧ w = w') := fun w => unit_c 8 w (by omega)
  have CU : Hid (∀ w : World, Calls Try.prog 11 #[.int .i64 p] w fun e w' => e = .returned (.int .i64 u) ∧ w = w') := fun w => by rw [← hu]; exact unit_c p w (by omega)
  have CW : Hid (∀ w : World, Calls Try.prog 14 #[.int .i64 d] w fun e w' => e = .returned (.int .i64 W) ∧ w = w') := fun w => by rw [← hW]; exact way_c d w (by omega)
  have hq' := hq
  unfold mx at hq'
  have hp' := hp
  unfold mx at hp'
  cases c
  · have hr : ans_ false d m o = 2 * (q * 12 + u + 674) + 4 * W := by simp [ans_, ansN, hW, hq, hp, hu]
    rw [hr]
    clear hr hW hq hp hu hb hb2
    go_enter Try.func13, Try.ntmps13
    go_wp2_with (first | ((with_reducible refine (C8.out _).mono ?_); rintro e w' ⟨rfl, rfl⟩) | ((with_reducible refine (CU.out _).mono ?_); rintro e w' ⟨rfl, rfl⟩) | ((with_reducible refine (frame_c _).mono ?_); rintro e w' ⟨rfl, rfl⟩) | ((with_reducible refine (CW.out _).mono ?_); rintro e w' ⟨rfl, rfl⟩))
    go_ret
    exact ⟨rfl, by repeat (first | exact Below.refl _ _ | apply Below.drew | (refine Below.alloc ?_ (by simp) _))⟩
  · have hr : ans_ true d m o = 2 * ((q * 12 + u + 674 + 2 * W) * (q + 2)) + 4 * W := by simp [ans_, ansN, hW, hq, hp, hu]
    rw [hr]
    clear hr hW hq hp hu hb hb2
    have n1 : 0 ≤ (q * 12 + u + 674 + 2 * W) * (q + 2) := Int.mul_nonneg (by omega) (by omega)
    have n2 : (q * 12 + u + 674 + 2 * W) * (q + 2) ≤ 10000000 * 100002 := Int.mul_le_mul (by omega) (by omega) (by omega) (by omega)
    go_enter Try.func13, Try.ntmps13
    go_wp2_with (first | ((with_reducible refine (C8.out _).mono ?_); rintro e w' ⟨rfl, rfl⟩) | ((with_reducible refine (CU.out _).mono ?_); rintro e w' ⟨rfl, rfl⟩) | ((with_reducible refine (frame_c _).mono ?_); rintro e w' ⟨rfl, rfl⟩) | ((with_reducible refine (CW.out _).mono ?_); rintro e w' ⟨rfl, rfl⟩))
    go_ret
    exact ⟨rfl, by repeat (first | exact Below.refl _ _ | apply Below.drew | (refine Below.alloc ?_ (by simp) _))⟩
end Go.Proofs.Ytclfmhajloblgaa
