/- The walks of serving, awake, wait (layer 17's laws). -/
import Derived.Test.YtdffinnnjcgfcaaGreatLw0
namespace Go.Proofs.YtdffinnnjcgfcaaGreatK
open Go Go.RowKit
set_option linter.unusedVariables false
set_option maxHeartbeats 600000
set_option maxRecDepth 100000
/-- A link that lives, in bounds. -/
structure Lk (w0 w : World) (b : Nat) (x : St) (n : Int) : Prop where
  v : Lv w0 w b x
  k : x.ok
  f : x.few n
section
variable {w0 w : World} {b : Nat} {x : St} {n : Int}
theorem Lk.below {w1 : World} (h : Lk w0 w b x n) (hb : Below w.heap.size w w1) : Lk w0 w1 b x n := ⟨h.v.below hb, h.k, h.f⟩
theorem Lk.lt (h : Lk w0 w b x n) : b < w.heap.size := by
  obtain ⟨L, S, F⟩ := h.v.lay
  exact S.st.lt
theorem Lk.base {w9 : World} (h : Lk w0 w b x n) (hb : Below w9.heap.size w9 w0) : Lk w9 w b x n := by
  obtain ⟨L, S, F⟩ := h.v.lay
  exact ⟨⟨bl_then hb h.v.bel, L, S, fun k hk => Nat.le_trans hb.size (F k hk)⟩, h.k, h.f⟩
theorem Lk.tick (h : Lk w0 w b x n) (hn : n ≤ 800000) :
    Calls Tryz.prog 28 #[.pointer (some ⟨b, 0, none⟩)] w fun e w' => e = .returned (.tuple #[]) ∧ Lk w0 w' b x.tick (n + 8) ∧ Kp w w' :=
  (h.v.tick h.k (h.f.le (by omega))).mono fun _ _ ⟨he, V, K⟩ => ⟨he, ⟨V, St.ok_tick h.k, St.few_tick h.f⟩, K⟩
theorem Lk.hear (h : Lk w0 w b x n) (hn : n ≤ 800000) {u : Un} {vi : Value} (hu : u.ok) (hv : BytV w vi u.info) :
    Calls Tryz.prog 31 #[.pointer (some ⟨b, 0, none⟩), u.v vi] w fun e w' => e = .returned (.tuple #[]) ∧ Lk w0 w' b (x.hear u) (n + 6) ∧ Kp w w' :=
  (h.v.hear h.k (h.f.le (by omega)) hu hv).mono fun _ _ ⟨he, V, K⟩ => ⟨he, ⟨V, St.ok_hear h.k _, St.few_hear h.f _⟩, K⟩
theorem Lk.hearI (h : Lk w0 w b x n) (hn : n ≤ 800000) {u : Un} {vi : Value} (hu : u.ok) (hv : BytI w0 [] vi u.info) :
    Calls Tryz.prog 31 #[.pointer (some ⟨b, 0, none⟩), u.v vi] w fun e w' => e = .returned (.tuple #[]) ∧ Lk w0 w' b (x.hear u) (n + 6) ∧ Kp w w' :=
  (h.v.hearI h.k (h.f.le (by omega)) hu hv).mono fun _ _ ⟨he, V, K⟩ => ⟨he, ⟨V, St.ok_hear h.k _, St.few_hear h.f _⟩, K⟩
theorem Lk.orderI (h : Lk w0 w b x n) (hn : n ≤ 800000) (k : Int) {vp : Value} {p : Oct} (hv : BytI w0 [] vp p) (hl : p.length ≤ 100000) :
    Calls Tryz.prog 26 #[.pointer (some ⟨b, 0, none⟩), .agg #[.int .u8 k, vp]] w fun e w' => e = .returned (.int .i64 (x.order k p).2) ∧ Lk w0 w' b (x.order k p).1 (n + 1) ∧ Kp w w' :=
  (h.v.orderI h.k (h.f.le (by omega)) k hv hl).mono fun _ _ ⟨he, V, K⟩ => ⟨he, ⟨V, St.ok_order h.k _ _, St.few_order h.f _ _⟩, K⟩
theorem Lk.hear0 (h : Lk w0 w b x n) (u : Un) (hn : n ≤ 800000) (hu : u.ok) (hi : u.info = []) :
    Calls Tryz.prog 31 #[.pointer (some ⟨b, 0, none⟩), u.v nil0] w fun e w' => e = .returned (.tuple #[]) ∧ Lk w0 w' b (x.hear u) (n + 6) ∧ Kp w w' := h.hear hn hu (hi ▸ byt_nil)
theorem Lk.damage (h : Lk w0 w b x n) (hn : n ≤ 800000) :
    Calls Tryz.prog 39 #[.pointer (some ⟨b, 0, none⟩)] w fun e w' => e = .returned (.tuple #[]) ∧ Lk w0 w' b (x.count true) (n + 1) ∧ Kp w w' :=
  (h.v.damage h.k (h.f.le (by omega))).mono fun _ _ ⟨he, V, K⟩ => ⟨he, ⟨V, St.ok_count h.k _, St.few_count h.f _⟩, K⟩
theorem Lk.next (h : Lk w0 w b x n) :
    Calls Tryz.prog 27 #[.pointer (some ⟨b, 0, none⟩)] w fun e w' => ∃ vi, e = .returned (x.next.2.v vi) ∧ BytV w' vi x.next.2.info ∧ Lk w0 w' b x.next.1 n ∧ Kp w w' :=
  (h.v.next h.k).mono fun _ _ ⟨vi, he, hv, V, K⟩ => ⟨vi, he, hv, ⟨V, St.ok_next h.k, St.few_next h.f⟩, K⟩
theorem Lk.order (h : Lk w0 w b x n) (hn : n ≤ 800000) (k : Int) {vp : Value} {p : Oct} (hv : BytV w vp p) (hl : p.length ≤ 100000) :
    Calls Tryz.prog 26 #[.pointer (some ⟨b, 0, none⟩), .agg #[.int .u8 k, vp]] w fun e w' => e = .returned (.int .i64 (x.order k p).2) ∧ Lk w0 w' b (x.order k p).1 (n + 1) ∧ Kp w w' :=
  (h.v.order h.k (h.f.le (by omega)) k hv hl).mono fun _ _ ⟨he, V, K⟩ => ⟨he, ⟨V, St.ok_order h.k _ _, St.few_order h.f _ _⟩, K⟩
theorem Lk.order0 (h : Lk w0 w b x n) (k : Int) (hn : n ≤ 800000) :
    Calls Tryz.prog 26 #[.pointer (some ⟨b, 0, none⟩), .agg #[.int .u8 k, nil0]] w fun e w' => e = .returned (.int .i64 (x.order k []).2) ∧ Lk w0 w' b (x.order k []).1 (n + 1) ∧ Kp w w' := h.order hn k byt_nil (by simp)
theorem Lk.told (h : Lk w0 w b x n) :
    Calls Tryz.prog 29 #[.pointer (some ⟨b, 0, none⟩)] w fun e w' => ∃ v, e = .returned v ∧ ToldV w' v x.told ∧ Lk w0 w' b { x with told := [] } n ∧ Kp w w' :=
  h.v.told.mono fun _ _ ⟨v, he, K, V, K2⟩ => ⟨v, he, K, ⟨V, ⟨h.k.h, h.k.w, h.k.a, h.k.leak, h.k.c, h.k.S⟩, ⟨by simp; exact Int.le_trans h.f.2.1 h.f.2.2, h.f.2.1, h.f.2.2⟩⟩, K2⟩
end
theorem ToldV.nil {w : World} {v : Value} (h : ToldV w v []) : ∃ a cap, v = .slice a 0 cap := h.1
theorem ToldV.one {w : World} {v : Value} {t : To} (h : ToldV w v [t]) : ∃ bl off cap, v = .slice (some ⟨bl, off, none⟩) 1 cap ∧ w.cell? ⟨bl, off, none⟩ = some (.int .u8 t.kind) ∧ w.cell? ⟨bl, off + 1, none⟩ = some (.int .u8 t.why) ∧ ∃ vp, w.cell? ⟨bl, off + 2, none⟩ = some vp ∧ BytV w vp t.p := h.2 0 t rfl
theorem NewL_c (cyc : Bool) (w : World) : Calls Tryz.prog 35 #[(quickS cyc).v] w fun e w' => ∃ b, e = .returned (.pointer (some ⟨b, 0, none⟩)) ∧ Lk w w' b (born cyc) 0 :=
  (New_c cyc w).mono fun _ _ ⟨b, he, V⟩ => ⟨b, he, V, born_ok cyc, born_few cyc⟩
theorem serving_c (cyc : Bool) (w : World) :
    Calls Tryz.prog 25 #[.bool cyc] w fun e w' => ∃ b, e = .returned (.pointer (some ⟨b, 0, none⟩)) ∧ Lk w w' b (served cyc) 200 := by
  have HQ := Lib.hid (fun w => quick_c cyc w)
  have HL := Lib.hid link_c
  have HFL := Lib.hid fill_c
  have o0 := Lib.hid (Un.ok_lk (i := 0) (by decide) (by decide))
  have o1 := Lib.hid (Un.ok_lk (i := 1) (by decide) (by decide))
  have of := Lib.hid Un.ok_fl
  obtain ⟨x3, hx3⟩ : ∃ x3, (((born cyc).order 1 []).1.hear (lk 0)).hear (lk 1) = x3 := ⟨_, rfl⟩
  have HX3 := Lib.hid hx3
  have ES := Lib.hid (show serv cyc = (x3.ticks 10).hear fl from by unfold serv; rw [hx3])
  have ED := Lib.hid (show ({ serv cyc with told := [] } : St) = served cyc from rfl)
  clear hx3
  go_enter Tryz.func25, Tryz.ntmps25
  go_wp2_with (first
    | ((with_reducible refine (HQ.out _).mono ?_); rintro e w1 ⟨rfl, hb1⟩)
    | ((with_reducible refine (NewL_c cyc _).mono ?_); rintro e w2 ⟨b, rfl, V0⟩; have V := Lib.hid (V0.base hb1); clear V0)
    | ((with_reducible refine (V.out.order0 1 (by decide)).mono ?_); rintro e w3 ⟨rfl, V1, _⟩; have Va := Lib.hid V1; clear V1)
    | ((with_reducible refine (HL.out 0 _).mono ?_); rintro e w4 ⟨rfl, hb4⟩; have Vb := Lib.hid (Va.out.below hb4))
    | ((with_reducible refine (Vb.out.hear0 (lk 0) (by decide) o0.out rfl).mono ?_); rintro e w5 ⟨rfl, V1, _⟩; have Vc := Lib.hid V1; clear V1)
    | ((with_reducible refine (HL.out 1 _).mono ?_); rintro e w6 ⟨rfl, hb6⟩; have Vd := Lib.hid (Vc.out.below hb6))
    | ((with_reducible refine (Vd.out.hear0 (lk 1) (by decide) o1.out rfl).mono ?_); rintro e w7 ⟨rfl, V1, _⟩; (rw [HX3.out] at V1); have Ve := Lib.hid V1; clear V1))
  go_loopw [4] (fun i wr => ∃ k : Nat, k ≤ 10 ∧ i = .int .i64 k ∧ Lk w wr b (x3.ticks k) (13 + 8 * k)) (fun i _ => 10 - (intOf i).toNat)
  case atStart => exact ⟨0, by omega, rfl, Ve.out⟩
  case round =>
    obtain ⟨k, hk, rfl, V9⟩ := hrel
    have V := Lib.hid V9
    clear V9
    by_cases hlt : k < 10
    · have hlt' : (k : Int) < 10 := by omega
      have HT := Lib.hid (V.out.tick (by omega))
      go_wp2_with (first | ((with_reducible refine HT.out.mono ?_); rintro e w8 ⟨rfl, V1, _⟩; have Vf := Lib.hid V1; clear V1))
      go_roundw
      case rel => exact ⟨k + 1, by omega, by go_num, by have := Vf.out; rw [show (13 : Int) + 8 * (k + 1 : Nat) = 13 + 8 * k + 8 by omega]; exact this⟩
      case measure => simp [intOf]; omega
    · have hk10 : k = 10 := by omega
      have hV := V.out
      have hE := ES.out
      rw [← hk10] at hE
      generalize x3.ticks k = x4 at hV hE
      have V := Lib.hid (show Lk w wr b x4 93 from ⟨hV.v, hV.k, hV.f.le (by omega)⟩)
      have ES := Lib.hid hE
      clear hV hE
      have kk : ¬ (k : Int) < 10 := by omega
      have kk' : (10 : Int) ≤ k := by omega
      have hn0 : (93 : Int) ≤ 800000 := by decide
      have Hn := Lib.hid hn0
      clear hn0
      go_wp2_with (first
        | ((with_reducible refine (HFL.out _).mono ?_); rintro e w8 ⟨rfl, hb8⟩; have Vf := Lib.hid (V.out.below hb8))
        | ((with_reducible refine (Vf.out.hear0 fl Hn.out of.out rfl).mono ?_); rintro e w9 ⟨rfl, V1, _⟩; (rw [← ES.out] at V1); have Vg := Lib.hid V1; clear V1)
        | ((with_reducible refine (Vg.out.told).mono ?_); rintro e w10 ⟨vt, rfl, K1, V1, _⟩; (rw [ED.out] at V1); (have c10 := V1.v.S); (rw [served_S] at c10); (rw [serv_told] at K1); (obtain ⟨bl, off, cap, rfl, t0, _⟩ := K1.one); (have Vh := Lib.hid V1); clear K1 V1))
      go_ret
      exact ⟨b, rfl, ⟨Vh.out.v, Vh.out.k, Vh.out.f.le (by omega)⟩⟩
end Go.Proofs.YtdffinnnjcgfcaaGreatK
