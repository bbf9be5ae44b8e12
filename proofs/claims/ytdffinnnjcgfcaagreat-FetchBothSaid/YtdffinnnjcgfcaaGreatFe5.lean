/- The walks of fetch.Messages and fetch.Change of links that are out. -/
import Derived.Test.YtdffinnnjcgfcaaGreatFe2
import Derived.Test.YtdffinnnjcgfcaaGreatFe3
import Derived.Test.YtdffinnnjcgfcaaGreatMg
namespace Go.Proofs.YtdffinnnjcgfcaaGreatK
open Go Go.RowKit
set_option linter.unusedVariables false
set_option maxHeartbeats 2000000
set_option maxRecDepth 100000
theorem HRest_c {w : World} {b : Nat} {h : Ho} {vs vn : Value} (hh : HoAt w b h vs vn) (ho : h.ok) (n : Int) (h0 : 0 ≤ n) (h1 : n ≤ 255) :
    Calls Tryz.prog 96 #[.pointer (some ⟨b, 0, none⟩), .int .u8 n] w fun e w' => ∃ v, e = .returned (.tuple #[v, .int .i64 (h.rest n).2]) ∧ MsgV w' v (h.rest n).1 ∧ Below w.heap.size w w' ∧ ∀ g ∈ own v, w.heap.size ≤ g := by
  cases hn : h.knows n with
  | false => exact HRest_no hh ho n h0 h1 hn
  | true => exact HRest_yes hh ho n h0 h1 hn
theorem Ho.rest_err (h : Ho) (n : Int) : (h.rest n).2 = 0 ∨ (h.rest n).2 = 10 := by
  unfold Ho.rest
  split
  · exact .inl rfl
  · exact .inr rfl
theorem Messages_c {w0 w : World} {b : Nat} {x : St} {n : Int} (h : Lk w0 w b x n) (h0 : x.S = 0) (k : Int) (k0 : 0 ≤ k) (k1 : k ≤ 255) :
    Calls Tryz.prog 50 #[.pointer (some ⟨b, 0, none⟩), .int .u8 k] w fun e w' => ∃ v, e = .returned (.tuple #[v, .int .i64 (x.h.rest k).2]) ∧ MsgV w' v (x.h.rest k).1 ∧ Below w.heap.size w w' ∧ ∀ g ∈ own v, w.heap.size ≤ g := by
  have cS := h.S
  rw [h0] at cS
  obtain ⟨bw, bh, vs, vn, c17, hwy, hho⟩ := h.hold
  have hmB := mB_Hold
  have hmC := mC_Hold
  obtain ⟨y9, hy9⟩ : ∃ y9, x.w = y9 := ⟨_, rfl⟩
  rw [hy9] at c17 hwy
  have HW := Lib.hid hwy
  have HR := Lib.hid (HRest_c hho h.k.h k k0 k1)
  clear hwy hy9 hho h
  generalize x.h.rest k = r at HR ⊢
  obtain ⟨rl, re⟩ := r
  dsimp only at HR ⊢
  cases y9 with
  | bs q =>
    simp only [Wy.v] at c17
    go_enter Tryz.func50, Tryz.ntmps50
    go_wp2_with (first
      | ((with_reducible refine (BHold_c HW.out).mono ?_); rintro e w9 ⟨rfl, rfl⟩)
      | ((with_reducible refine HR.out.mono ?_); rintro e w10 ⟨v, rfl, M9, B9, O9⟩; have HM := Lib.hid M9; have HB := Lib.hid B9; have HO := Lib.hid O9; clear M9 B9 O9))
    go_ret2
    exact ⟨v, rfl, HM.out, HB.out, HO.out⟩
  | cy q =>
    simp only [Wy.v] at c17
    go_enter Tryz.func50, Tryz.ntmps50
    go_wp2_with (first
      | ((with_reducible refine (CHold_c HW.out).mono ?_); rintro e w9 ⟨rfl, rfl⟩)
      | ((with_reducible refine HR.out.mono ?_); rintro e w10 ⟨v, rfl, M9, B9, O9⟩; have HM := Lib.hid M9; have HB := Lib.hid B9; have HO := Lib.hid O9; clear M9 B9 O9))
    go_ret2
    exact ⟨v, rfl, HM.out, HB.out, HO.out⟩
theorem Change_nil {w0 w : World} {b : Nat} {x : St} {n : Int} (h : Lk w0 w b x n) (h0 : x.S = 0) :
    Calls Tryz.prog 51 #[.pointer none, .pointer (some ⟨b, 0, none⟩)] w fun e w' => e = .returned (.tuple #[nil0, nil0, .int .i64 2]) ∧ w = w' := by
  have H1 := Lib.hid (BSNT_nil w)
  have H2 := Lib.hid (BSNT_c h h0)
  clear h
  go_enter Tryz.func51, Tryz.ntmps51
  go_wp2_with (first
    | ((with_reducible refine H1.out.mono ?_); rintro e w9 ⟨rfl, rfl⟩)
    | ((with_reducible refine H2.out.mono ?_); rintro e w9 ⟨rfl, rfl⟩))
  go_ret3
  exact ⟨rfl, rfl⟩
theorem Change_on {w0 w0' w : World} {a b : Nat} {x y : St} {n m : Int} (h : Lk w0 w a x n) (h0 : x.S = 0) (k : Lk w0' w b y m) (k0 : y.S ≠ 0) :
    Calls Tryz.prog 51 #[.pointer (some ⟨a, 0, none⟩), .pointer (some ⟨b, 0, none⟩)] w fun e w' => e = .returned (.tuple #[nil0, nil0, .int .i64 9]) ∧ w = w' := by
  have H1 := Lib.hid (BSNT_c h h0)
  have H2 := Lib.hid (BSNT_on k k0)
  clear h k
  go_enter Tryz.func51, Tryz.ntmps51
  go_wp2_with (first
    | ((with_reducible refine H1.out.mono ?_); rintro e w9 ⟨rfl, rfl⟩)
    | ((with_reducible refine H2.out.mono ?_); rintro e w9 ⟨rfl, rfl⟩))
  go_ret3
  exact ⟨rfl, rfl⟩
/-- Both are out: either both lists come, or none. -/
theorem Change_c {w0 w0' w : World} {a b : Nat} {x y : St} {n m : Int} (h : Lk w0 w a x n) (h0 : x.S = 0) (k : Lk w0' w b y m) (k0 : y.S = 0) (hx : 0 ≤ x.w.last ∧ x.w.last ≤ 127) (hy : 0 ≤ y.w.last ∧ y.w.last ≤ 127) :
    Calls Tryz.prog 51 #[.pointer (some ⟨a, 0, none⟩), .pointer (some ⟨b, 0, none⟩)] w fun e w' => Below w.heap.size w w' ∧
      if (x.h.rest y.w.last).2 = 0 ∧ (y.h.rest x.w.last).2 = 0 then ∃ v u, e = .returned (.tuple #[v, u, .int .i64 0]) ∧ MsgV w' v (x.h.rest y.w.last).1 ∧ MsgV w' u (y.h.rest x.w.last).1
      else e = .returned (.tuple #[nil0, nil0, .int .i64 10]) := by
  have H1 := Lib.hid (BSNT_c h h0)
  have H2 := Lib.hid (BSNT_c k k0)
  have H3 := Lib.hid (Messages_c h h0 y.w.last hy.1 (by omega))
  have H4 := Lib.hid (fun (w1 : World) (hb : Below w.heap.size w w1) => Messages_c (w := w1) (show Lk w0' w1 b y m from k.below hb) k0 x.w.last hx.1 (by omega))
  have e1 := Ho.rest_err x.h y.w.last
  have e2 := Ho.rest_err y.h x.w.last
  clear h k
  generalize x.h.rest y.w.last = r1 at H3 e1 ⊢
  generalize y.h.rest x.w.last = r2 at H4 e2 ⊢
  generalize x.w.last = xl at H1 H4 ⊢
  generalize y.w.last = yl at H2 H3 ⊢
  obtain ⟨l1, q1⟩ := r1
  obtain ⟨l2, q2⟩ := r2
  dsimp only at H3 H4 e1 e2 ⊢
  rcases e1 with rfl | rfl <;> rcases e2 with rfl | rfl
  all_goals
    go_enter Tryz.func51, Tryz.ntmps51
    go_wp2_with (first
      | ((with_reducible refine H1.out.mono ?_); rintro e w9 ⟨rfl, rfl⟩)
      | ((with_reducible refine H2.out.mono ?_); rintro e w9 ⟨rfl, rfl⟩)
      | ((with_reducible refine H3.out.mono ?_); rintro e w10 ⟨v, rfl, M9, B9, O9⟩; have HM := Lib.hid M9; have HB := Lib.hid B9; clear M9 B9 O9)
      | ((with_reducible refine (H4.out _ HB.out).mono ?_); rintro e w11 ⟨u, rfl, M9, B9, O9⟩; have HM2 := Lib.hid M9; have HB2 := Lib.hid B9; clear M9 B9 O9))
    go_ret3
    first
      | exact ⟨bl_then HB.out HB2.out, ⟨_, _, rfl, Msgs.stay HM.out (F := []) (by simp [Off]) (.of_below HB2.out []) (by simp), HM2.out⟩⟩
      | exact ⟨bl_then HB.out HB2.out, rfl⟩
      | exact ⟨bl_then HB.out HB2.out, by rw [if_neg (by decide)]⟩
      | (exfalso; simp_all; done)
      | trace_state
end Go.Proofs.YtdffinnnjcgfcaaGreatK
