/- The walks of package state, continued: Hear. -/
import Derived.Test.YtcllbmjmefeknaaGreatSt9
namespace Go.Proofs.YtcllbmjmefeknaaGreatK
open Go Go.RowKit
set_option linter.unusedVariables false
set_option maxHeartbeats 1000000
set_option maxRecDepth 100000
theorem Hear_c {w : World} {b : Nat} {x : St} {L : Lay} {u : Un} {vi : Value} (h : StAt w b x L) (hk : x.ok) (hf : x.few 800000) (hu : u.ok) (hv : BytI w (stF b L) vi u.info) :
    Calls Tryz.prog 123 #[.pointer (some ⟨b, 0, none⟩), u.v vi] w fun e w' => e = .returned (.tuple #[]) ∧ StTo w w' b (x.hear u) L := by
  obtain ⟨ai, ci, rfl, _⟩ := hv.shape
  obtain ⟨y, hy⟩ : ∃ y, x.count false = y := ⟨_, rfl⟩
  rw [show x.hear u = y.heard u from by rw [← hy]; rfl]
  have KY := Lib.hid (hy ▸ St.ok_count hk false)
  have fy : y.few 800001 := hy ▸ St.few_count hf false
  have FY := Lib.hid (fy.le (m := 900000) (by omega))
  have HUV := Lib.hid (fun (wx : World) (z : St) (T : StTo (w.alloc (.cells (u.cells (.slice ai u.info.length ci)) 188)) wx b z L) => StTo.unit (u := u) h hv T)
  have HUO := Lib.hid hu
  have BW := Lib.hid (bl_alloc (bl_refl w) (.cells (u.cells (.slice ai u.info.length ci)) 188))
  have hc0 := Count_c (h.below (bl_alloc (bl_refl w) (.cells (u.cells (.slice ai u.info.length ci)) 188))) hk (hf.le (by omega)) false
  rw [hy] at hc0
  have HC := Lib.hid hc0
  clear h hk hf hu hv hc0 hy fy
  obtain ⟨s, S, c, a, j, o, wy, oa, leak, told, fails⟩ := y
  obtain ⟨bsn, fsn, bib, fib, kind, status, wide, info⟩ := u
  by_cases h0 : S = 0
  · subst h0
    rw [show St.heard ⟨s, 0, c, a, j, o, wy, oa, leak, told, fails⟩ ⟨bsn, fsn, bib, fib, kind, status, wide, info⟩ = ⟨s, 0, c, a, j, o, wy, oa, leak, told, fails⟩ from by simp [St.heard]]
    go_enter Tryz.func123, Tryz.ntmps123
    go_wp2_with (first
      | ((with_reducible refine HC.out.mono ?_); rintro e w1 ⟨rfl, T1⟩; (obtain ⟨L1, N1, V1, S1, G1, O1⟩ := HUV.out _ _ T1); (have HS1 := Lib.hid S1); (have HG1 := Lib.hid G1); (have HO1 := Lib.hid O1); (have s1c := S1.st.c); (have n1c := N1.c); (have HV1 := Lib.hid V1); clear S1 G1 O1 N1 V1 T1))
    go_end0
    exact ⟨rfl, StTo.stepB BW.out (StTo.then HG1.out HO1.out (StTo.same HS1.out))⟩
  have k0 : (S == 0) = false := beq_eq_false_iff_ne.2 h0
  by_cases k1 : kind = 1
  · subst k1
    rw [show St.heard ⟨s, S, c, a, j, o, wy, oa, leak, told, fails⟩ ⟨bsn, fsn, bib, fib, 1, status, wide, info⟩ = St.status ⟨s, S, c, a, j, o, wy, oa, leak, told, fails⟩ status from by simp [St.heard, h0]]
    go_enter Tryz.func123, Tryz.ntmps123
    go_wp2_with (first
      | ((with_reducible refine HC.out.mono ?_); rintro e w1 ⟨rfl, T1⟩; (obtain ⟨L1, N1, V1, S1, G1, O1⟩ := HUV.out _ _ T1); (have HS1 := Lib.hid S1); (have HG1 := Lib.hid G1); (have HO1 := Lib.hid O1); (have s1c := S1.st.c); (have n1c := N1.c); (have HV1 := Lib.hid V1); clear S1 G1 O1 N1 V1 T1)
      | ((with_reducible refine (Status_c HS1.out KY.out (FY.out.le (by omega)) status).mono ?_); rintro e w2 ⟨rfl, T2⟩))
    go_end0
    exact ⟨rfl, StTo.stepB BW.out (StTo.then HG1.out HO1.out T2)⟩
  have k1' : (kind == 1) = false := beq_eq_false_iff_ne.2 k1
  by_cases h1 : S = 1
  · subst h1
    rw [show St.heard ⟨s, 1, c, a, j, o, wy, oa, leak, told, fails⟩ ⟨bsn, fsn, bib, fib, kind, status, wide, info⟩ = ⟨s, 1, c, a, j, o, wy, oa, leak, told, fails⟩ from by simp [St.heard, k1]]
    go_enter Tryz.func123, Tryz.ntmps123
    go_wp2_with (first
      | ((with_reducible refine HC.out.mono ?_); rintro e w1 ⟨rfl, T1⟩; (obtain ⟨L1, N1, V1, S1, G1, O1⟩ := HUV.out _ _ T1); (have HS1 := Lib.hid S1); (have HG1 := Lib.hid G1); (have HO1 := Lib.hid O1); (have s1c := S1.st.c); (have n1c := N1.c); (have HV1 := Lib.hid V1); clear S1 G1 O1 N1 V1 T1))
    go_end0
    exact ⟨rfl, StTo.stepB BW.out (StTo.then HG1.out HO1.out (StTo.same HS1.out))⟩
  have kS1 : (S == 1) = false := beq_eq_false_iff_ne.2 h1
  rw [show St.heard ⟨s, S, c, a, j, o, wy, oa, leak, told, fails⟩ ⟨bsn, fsn, bib, fib, kind, status, wide, info⟩ = St.ordinary ⟨s, S, c, a, j, o, wy, oa, leak, told, fails⟩ ⟨bsn, fsn, bib, fib, kind, status, wide, info⟩ from by simp [St.heard, h0, k1, h1]]
  go_enter Tryz.func123, Tryz.ntmps123
  go_wp2_with (first
    | ((with_reducible refine HC.out.mono ?_); rintro e w1 ⟨rfl, T1⟩; (obtain ⟨L1, N1, V1, S1, G1, O1⟩ := HUV.out _ _ T1); (have HS1 := Lib.hid S1); (have HG1 := Lib.hid G1); (have HO1 := Lib.hid O1); (have s1c := S1.st.c); (have n1c := N1.c); (have HV1 := Lib.hid V1); clear S1 G1 O1 N1 V1 T1)
    | ((with_reducible refine (Ordinary_c (u := ⟨bsn, fsn, bib, fib, kind, status, wide, info⟩) HS1.out KY.out FY.out HUO.out HV1.out).mono ?_); rintro e w2 ⟨rfl, T2⟩))
  go_end0
  exact ⟨rfl, StTo.stepB BW.out (StTo.then HG1.out HO1.out T2)⟩
end Go.Proofs.YtcllbmjmefeknaaGreatK
