/- An act of layer 17's laws. -/
import Derived.Test.YtdffinnnjcgfcaaGreatLw0
import Derived.Test.YtdffinnnjcgfcaaGreatLac
namespace Go.Proofs.YtdffinnnjcgfcaaGreatK
open Go Go.RowKit
set_option linter.unusedVariables false
set_option maxHeartbeats 1000000
set_option maxRecDepth 100000
structure Ac.ok (c : Ac) : Prop where
  k : 0 ≤ c.k ∧ c.k ≤ 255
  a : 0 ≤ c.a ∧ c.a ≤ 255
  u : c.u.ok
abbrev Ac.cells (c : Ac) (vi : Value) : Array Value := #[.int .u8 c.k, .int .u8 c.a, .int .u8 c.u.bsn, .int .u8 c.u.fsn, .bool c.u.bib, .bool c.u.fib, .int .u8 c.u.kind, .int .u8 c.u.status, .bool c.u.wide, vi]
theorem Lk.to {w0 w : World} {b : Nat} {x y : St} {n m : Int} (h : Lk w0 w b x n) (e : y = x) (hn : n ≤ m) : Lk w0 w b y m := e ▸ ⟨h.v, h.k, h.f.le hn⟩
theorem Lv.bel0 {w0 w : World} {b : Nat} {x : St} (h : Lv w0 w b x) : w0.heap.size ≤ w.heap.size := h.bel.size
theorem Lk.far {w0 w : World} {b : Nat} {x : St} {n : Int} (h : Lk w0 w b x n) {g : Nat} {cs : Array Value} {t : TypeId} (hg : Blk w g cs t) (ht : t ∉ linkTs) (h8 : t ≠ 5) (h0 : w0.heap.size ≤ g) (i : Nat) (u : Value) : Lk w0 (w.setCell ⟨g, i, none⟩ u) b x n := by
  obtain ⟨L, S, F⟩ := h.v.lay
  refine ⟨⟨bl_set h.v.bel h0 u, L, S.far (F := [g]) (off1 hg h8) (fun k hk hkg => ?_) (chg1 w g i u), F⟩, h.k, h.f⟩
  obtain ⟨cs', t', h1, h2⟩ := S.typed k hk
  obtain rfl : k = g := by simpa using hkg
  exact h1.ne hg (fun e => ht (e ▸ h2)) rfl
theorem Lk.st {w0 w : World} {b : Nat} {x : St} {n : Int} (h : Lk w0 w b x n) : ∃ L, StAt w b x L := ⟨_, h.v.lay.choose_spec.1⟩
theorem byt_new3At {w : World} {g : Nat} (hg : g = w.heap.size) {x y z : Int} (hx : 0 ≤ x ∧ x ≤ 255) (hy : 0 ≤ y ∧ y ≤ 255) (hz : 0 ≤ z ∧ z ≤ 255) : BytV (w.alloc (.cells #[.int .u8 x, .int .u8 y, .int .u8 z] 5)) (.slice (some ⟨g, 0, none⟩) 3 3) [x, y, z] := hg ▸ byt_new3 hx hy hz
theorem do_c {w0 w : World} {b : Nat} {x : St} {n : Int} (V0 : Lk w0 w b x n) (h0 : 0 ≤ n) (hn : n ≤ 700000) {c : Ac} (hc : c.ok) {vi : Value} (hi : BytI w0 [] vi c.u.info) :
    Calls Tryz.prog 42 #[.pointer (some ⟨b, 0, none⟩), .agg (c.cells vi)] w fun e w' => e = .returned (.tuple #[]) ∧ Lk w0 w' b (x.act c) (n + 200) := by
  obtain ⟨k, a, ⟨bsn, fsn, bib, fib, kind, status, wide, info⟩⟩ := c
  have hk := hc.k
  have ha := hc.a
  have hu := hc.u
  dsimp only [Ac.cells] at hk ha hu hi ⊢
  obtain ⟨ai, ci, rfl, _⟩ := hi.shape
  obtain ⟨m, hm⟩ : ∃ m, k % 16 = m := ⟨_, rfl⟩
  have hm0 : 0 ≤ m ∧ m ≤ 15 := by omega
  have AD := Lib.hid (show x.act ⟨k, a, ⟨bsn, fsn, bib, fib, kind, status, wide, info⟩⟩ = if m < 4 then (x.order (a % 13) [a, 1, 2]).1 else if m < 7 then x.hear (lk (a % 6)) else if m = 7 then x.count true else if m < 10 then x.hear (x.fits ⟨k, a, ⟨bsn, fsn, bib, fib, kind, status, wide, info⟩⟩) else if m = 10 then x.hear ⟨bsn % 128, fsn % 128, bib, fib, kind % 3, status, wide, info⟩ else if m = 11 then x.ticks (a % 16).toNat else if m < 14 then x.next.1 else x.tick from by unfold St.act; rw [hm]; rfl)
  have V := Lib.hid (V0.below (bl_alloc (bl_refl w) (.cells #[.int .u8 k, .int .u8 a, .int .u8 bsn, .int .u8 fsn, .bool bib, .bool fib, .int .u8 kind, .int .u8 status, .bool wide, .slice ai info.length ci] 71)))
  have N1 := Lib.hid (Blk.new w #[.int .u8 k, .int .u8 a, .int .u8 bsn, .int .u8 fsn, .bool bib, .bool fib, .int .u8 kind, .int .u8 status, .bool wide, .slice ai info.length ci] 71)
  have HI := Lib.hid hi
  have HL := Lib.hid link_c
  have HFL := Lib.hid fill_c
  have HU := Lib.hid hu
  clear hc hi V0 hu
  have n1c := N1.out.c
  by_cases m4 : m < 4
  · have V3 := Lib.hid (V.out.below (bl_alloc (bl_refl _) (.cells #[.int .u8 a, .int .u8 1, .int .u8 2] 5)))
    have HT := Lib.hid (V3.out.order (by omega) (a % 13) (byt_new3At (g := w.heap.size + 1) (by simp) (x := a) (y := 1) (z := 2) ha (by decide) (by decide)) (by simp))
    have A := Lib.hid (AD.out.trans (if_pos m4))
    go_enter Tryz.func42, Tryz.ntmps42
    go_wp2_with (first
      | ((with_reducible refine HT.out.mono ?_); rintro e w4 ⟨rfl, V1, _⟩; have V4 := Lib.hid V1; clear V1))
    go_end0
    exact ⟨rfl, V4.out.to A.out (by omega)⟩
  have AD := Lib.hid (AD.out.trans (if_neg m4))
  by_cases m7 : m < 7
  · have o6 := Lib.hid (Un.ok_lk (i := a % 6) (by omega) (by omega))
    have A := Lib.hid (AD.out.trans (if_pos m7))
    go_enter Tryz.func42, Tryz.ntmps42
    go_wp2_with (first
      | ((with_reducible refine (HL.out _ _).mono ?_); rintro e w3 ⟨rfl, hb3⟩; (have Va := Lib.hid (V.out.below hb3)); (have HT := Lib.hid (Va.out.hear0 (lk (a % 6)) (by omega) o6.out rfl)))
      | ((with_reducible refine HT.out.mono ?_); rintro e w4 ⟨rfl, V1, _⟩; have V4 := Lib.hid V1; clear V1))
    go_end0
    exact ⟨rfl, V4.out.to A.out (by omega)⟩
  have AD := Lib.hid (AD.out.trans (if_neg m7))
  by_cases e7 : m = 7
  · have A := Lib.hid (AD.out.trans (if_pos e7))
    subst e7
    have HT := Lib.hid (V.out.damage (by omega))
    go_enter Tryz.func42, Tryz.ntmps42
    go_wp2_with (first
      | ((with_reducible refine HT.out.mono ?_); rintro e w4 ⟨rfl, V1, _⟩; have V4 := Lib.hid V1; clear V1))
    go_end0
    exact ⟨rfl, V4.out.to A.out (by omega)⟩
  have AD := Lib.hid (AD.out.trans (if_neg e7))
  have k7 : (m == 7) = false := beq_eq_false_iff_ne.2 e7
  by_cases m10 : m < 10
  · have A := Lib.hid (AD.out.trans (if_pos m10))
    obtain ⟨kd, hkd⟩ : ∃ kd, kind % 3 = kd := ⟨_, rfl⟩
    have hkd0 : 0 ≤ kd ∧ kd ≤ 2 := by omega
    have hkind : 0 ≤ kind ∧ kind ≤ 255 := HU.out.kind
    have hmB := mB_Hold
    have hmC := mC_Hold
    have hmB2 := mB_Taken
    have hmC2 := mC_Taken
    go_enter Tryz.func42, Tryz.ntmps42
    go_upto_if 50 with (first
      | ((with_reducible refine (HFL.out _).mono ?_); rintro e w3 ⟨rfl, hb3⟩; (have N3 := Lib.hid (N1.out.below hb3)); (have n3c := N3.out.c); (have hg3 : w0.heap.size ≤ w3.heap.size := Nat.le_trans V.out.v.bel0 hb3.size); (have l3 := N3.out.lt); (have n3 : w.heap.size ≠ w3.heap.size := Nat.ne_of_lt l3); (have Va := Lib.hid (V.out.below hb3))))
    have N4 := Lib.hid (N3.out.alloc (.cells #[.int .u8 127, .int .u8 127, .bool true, .bool true, .int .u8 kd, .int .u8 0, .bool false, nil0] 31))
    have M4 := Lib.hid (Blk.new w3 #[.int .u8 127, .int .u8 127, .bool true, .bool true, .int .u8 kd, .int .u8 0, .bool false, nil0] 31)
    have Vb := Lib.hid (Va.out.below (bl_alloc (bl_refl w3) (.cells #[.int .u8 127, .int .u8 127, .bool true, .bool true, .int .u8 kd, .int .u8 0, .bool false, nil0] 31)))
    obtain ⟨inf, hinf⟩ : ∃ inf : Oct, (if kd = 2 then [a, 2, 3] else []) = inf := ⟨_, rfl⟩
    have HINF := Lib.hid hinf
    clear hinf
    go_cut [] (fun wx => ∃ vi, BytV wx vi inf ∧ Blk wx w3.heap.size #[.int .u8 127, .int .u8 127, .bool true, .bool true, .int .u8 kd, .int .u8 0, .bool false, vi] 31 ∧ Blk wx w.heap.size #[.int .u8 k, .int .u8 a, .int .u8 bsn, .int .u8 fsn, .bool bib, .bool fib, .int .u8 kind, .int .u8 status, .bool wide, .slice ai info.length ci] 71 ∧ Lk w0 wx b x n)
    case first =>
      by_cases k2 : kd = 2
      · have e := HINF.out
        rw [if_pos k2] at e
        subst e
        go_wp2
        go_meet
        case rel =>
          refine ⟨.slice (some ⟨w3.heap.size + 1, 0, none⟩) 3 3, byt_new3At (by simp) ha (by decide) (by decide), ?_, ?_, ?_⟩
          · rw [k2]
            exact (Blk.new w3 _ _).alloc _
          · exact (N3.out.alloc _).alloc _
          · exact Va.out.below (bl_alloc (bl_alloc (bl_refl w3) _) _)
      · have e := HINF.out
        rw [if_neg k2] at e
        subst e
        have k2' : (kd == 2) = false := beq_eq_false_iff_ne.2 k2
        go_wp2
        go_meet
        case rel => exact ⟨nil0, byt_nil, M4.out, N4.out, Vb.out⟩
    case rest =>
      rename World => w5
      obtain ⟨vi, B5, M5, N5, V5⟩ := hcut
      obtain ⟨av, cv, rfl, _⟩ := B5.1.shape
      have n3 : w.heap.size ≠ w3.heap.size := Nat.ne_of_lt N3.out.lt
      obtain ⟨xs, xS, xc, xa, xj, xh, xw, xo, xl, xt, xf⟩ := x
      obtain ⟨L5, S5⟩ := V5.st
      cases xw with
      | bs q =>
        have hl5 : 0 ≤ q.last ∧ q.last ≤ 255 := by
          have hw := V5.k.w
          have := hw.last
          exact ⟨this.1, by have := this.2; omega⟩
        have DT := Lib.hid (fun g : Up w5 => BTaken_c (S5.wy.below g.ok))
        have K1 := S5.st
        have M1 := M5
        have N1' := N5
        have nb : b ≠ w3.heap.size := fun e => by subst e; exact absurd rfl (K1.ne M5 (by decide))
        go_upto_region 14 with fail
        refine wp_region_up_tail 13 (by kernel_rfl) (by kernel_rfl) ?_
        simp only [List.take_succ_cons, List.take_zero, List.drop_succ_cons, List.drop_zero]
        have up_K1 := fun (g : Up _) => (Blk.below K1 g.ok).c
        have up_M1 := fun (g : Up _) => (Blk.below M1 g.ok).c
        have up_N1' := fun (g : Up _) => (Blk.below N1' g.ok).c
        repeat (go_big_quiet_step (with_reducible exact Up.calls_same _ (DT.out _)))
        refine wpQuiet_nil ?_
        clear up_K1 up_M1 up_N1'
        refine up_elim (fun w6 hb_w6 => ?_)
        have V6 := Lib.hid (V5.below hb_w6)
        have M6 := Lib.hid (M5.below hb_w6)
        have B6 := Lib.hid (B5.below hb_w6)
        have m6c := M6.out.c
        have m6f := M6.out.f
        obtain ⟨fs, hfs⟩ : ∃ fs, (q.last + a % 3) % 128 = fs := ⟨_, rfl⟩
        have V7 := Lib.hid (V6.out.far M6.out (by decide) (by decide) hg3 1 (.int .u8 fs))
        have B7 := Lib.hid (B6.out.stay (off1 M6.out (by decide)) (chg1 w6 w3.heap.size 1 (.int .u8 fs)))
        have M7 := Lib.hid (M6.out.set 1 (.int .u8 fs))
        clear K1 M1 N1' M5 N5 B5 V5 S5
        obtain ⟨L7, S7⟩ := V7.out.st
        have K7 := S7.st.c
        have HW7 := Lib.hid S7.wy
        have HH7 := Lib.hid S7.ho
        have hf7 : 0 ≤ xh.first ∧ xh.first ≤ 127 := V7.out.k.h.first
        obtain ⟨bs, hbs⟩ : ∃ bs, (xh.first + 127) % 128 = bs := ⟨_, rfl⟩
        have V8 := Lib.hid (V7.out.far M7.out (by decide) (by decide) hg3 0 (.int .u8 bs))
        have B8 := Lib.hid (B7.out.stay (off1 M7.out (by decide)) (chg1 _ w3.heap.size 0 (.int .u8 bs)))
        have OU := Lib.hid (show (⟨bs, fs, true, true, kd, 0, false, inf⟩ : Un).ok from ⟨by dsimp only; omega, by dsimp only; omega, by dsimp only; omega, by simp, by dsimp only; rw [← HINF.out]; split <;> simp⟩)
        have HT := Lib.hid (V8.out.hear (by omega) OU.out B8.out)
        clear S7
        go_wp2_with (first
          | ((with_reducible refine (BHold_c HW7.out).mono ?_); rintro e w9 ⟨rfl, rfl⟩)
          | ((with_reducible refine (HFirst_c HH7.out).mono ?_); rintro e w9 ⟨rfl, rfl⟩)
          | ((with_reducible refine HT.out.mono ?_); rintro e w8 ⟨rfl, V1, _⟩; have Vf := Lib.hid V1; clear V1))
        go_end0
        refine ⟨rfl, Vf.out.to (A.out.trans ?_) (by omega)⟩
        rw [← hbs, ← hfs, ← HINF.out, ← hkd]
        rfl
      | cy q =>
        have hl5 : 0 ≤ q.last ∧ q.last ≤ 255 := by
          have hw := V5.k.w
          have := hw.last
          exact ⟨this.1, by have := this.2; omega⟩
        have DT := Lib.hid (fun g : Up w5 => CTaken_c (S5.wy.below g.ok))
        have K1 := S5.st
        have M1 := M5
        have N1' := N5
        have nb : b ≠ w3.heap.size := fun e => by subst e; exact absurd rfl (K1.ne M5 (by decide))
        go_upto_region 14 with fail
        refine wp_region_up_tail 13 (by kernel_rfl) (by kernel_rfl) ?_
        simp only [List.take_succ_cons, List.take_zero, List.drop_succ_cons, List.drop_zero]
        have up_K1 := fun (g : Up _) => (Blk.below K1 g.ok).c
        have up_M1 := fun (g : Up _) => (Blk.below M1 g.ok).c
        have up_N1' := fun (g : Up _) => (Blk.below N1' g.ok).c
        repeat (go_big_quiet_step (with_reducible exact Up.calls_same _ (DT.out _)))
        refine wpQuiet_nil ?_
        clear up_K1 up_M1 up_N1'
        refine up_elim (fun w6 hb_w6 => ?_)
        have V6 := Lib.hid (V5.below hb_w6)
        have M6 := Lib.hid (M5.below hb_w6)
        have B6 := Lib.hid (B5.below hb_w6)
        have m6c := M6.out.c
        have m6f := M6.out.f
        obtain ⟨fs, hfs⟩ : ∃ fs, (q.last + a % 3) % 128 = fs := ⟨_, rfl⟩
        have V7 := Lib.hid (V6.out.far M6.out (by decide) (by decide) hg3 1 (.int .u8 fs))
        have B7 := Lib.hid (B6.out.stay (off1 M6.out (by decide)) (chg1 w6 w3.heap.size 1 (.int .u8 fs)))
        have M7 := Lib.hid (M6.out.set 1 (.int .u8 fs))
        clear K1 M1 N1' M5 N5 B5 V5 S5
        obtain ⟨L7, S7⟩ := V7.out.st
        have K7 := S7.st.c
        have HW7 := Lib.hid S7.wy
        have HH7 := Lib.hid S7.ho
        have hf7 : 0 ≤ xh.first ∧ xh.first ≤ 127 := V7.out.k.h.first
        obtain ⟨bs, hbs⟩ : ∃ bs, (xh.first + 127) % 128 = bs := ⟨_, rfl⟩
        have V8 := Lib.hid (V7.out.far M7.out (by decide) (by decide) hg3 0 (.int .u8 bs))
        have B8 := Lib.hid (B7.out.stay (off1 M7.out (by decide)) (chg1 _ w3.heap.size 0 (.int .u8 bs)))
        have OU := Lib.hid (show (⟨bs, fs, true, true, kd, 0, false, inf⟩ : Un).ok from ⟨by dsimp only; omega, by dsimp only; omega, by dsimp only; omega, by simp, by dsimp only; rw [← HINF.out]; split <;> simp⟩)
        have HT := Lib.hid (V8.out.hear (by omega) OU.out B8.out)
        clear S7
        go_wp2_with (first
          | ((with_reducible refine (CHold_c HW7.out).mono ?_); rintro e w9 ⟨rfl, rfl⟩)
          | ((with_reducible refine (HFirst_c HH7.out).mono ?_); rintro e w9 ⟨rfl, rfl⟩)
          | ((with_reducible refine HT.out.mono ?_); rintro e w8 ⟨rfl, V1, _⟩; have Vf := Lib.hid V1; clear V1))
        go_end0
        refine ⟨rfl, Vf.out.to (A.out.trans ?_) (by omega)⟩
        rw [← hbs, ← hfs, ← HINF.out, ← hkd]
        rfl
  have AD := Lib.hid (AD.out.trans (if_neg m10))
  by_cases e10 : m = 10
  · have A := Lib.hid (AD.out.trans (if_pos e10))
    subst e10
    have hbs : 0 ≤ bsn ∧ bsn ≤ 255 := HU.out.bsn
    have hfs : 0 ≤ fsn ∧ fsn ≤ 255 := HU.out.fsn
    have hkn : 0 ≤ kind ∧ kind ≤ 255 := HU.out.kind
    go_enter Tryz.func42, Tryz.ntmps42
    have OU := Lib.hid (show (⟨bsn % 128, fsn % 128, bib, fib, kind % 3, status, wide, info⟩ : Un).ok from ⟨by dsimp only; omega, by dsimp only; omega, by dsimp only; omega, HU.out.status, HU.out.info⟩)
    have V3 := Lib.hid (V.out.below (bl_alloc (bl_refl _) (.cells #[.int .u8 (bsn % 128), .int .u8 (fsn % 128), .bool bib, .bool fib, .int .u8 (kind % 3), .int .u8 status, .bool wide, .slice ai info.length ci] 31)))
    have HT := Lib.hid (V3.out.hearI (by omega) OU.out HI.out)
    go_wp2_with (first | ((with_reducible refine HT.out.mono ?_); rintro e w8 ⟨rfl, V1, _⟩; have Vf := Lib.hid V1; clear V1))
    go_end0
    exact ⟨rfl, Vf.out.to A.out (by omega)⟩
  have AD := Lib.hid (AD.out.trans (if_neg e10))
  have k10 : (m == 10) = false := beq_eq_false_iff_ne.2 e10
  by_cases e11 : m = 11
  · have A := Lib.hid (AD.out.trans (if_pos e11))
    subst e11
    obtain ⟨nt, hnt⟩ : ∃ nt : Nat, a % 16 = nt := ⟨(a % 16).toNat, by omega⟩
    have ht15 : nt ≤ 15 := by omega
    have A2 := Lib.hid (show x.act ⟨k, a, ⟨bsn, fsn, bib, fib, kind, status, wide, info⟩⟩ = x.ticks nt from by rw [A.out, hnt]; rfl)
    go_enter Tryz.func42, Tryz.ntmps42
    go_wp2
    go_loopw [7] (fun i wr => ∃ j : Nat, j ≤ nt ∧ i = .int .i64 j ∧ Lk w0 wr b (x.ticks j) (n + 8 * j) ∧ Blk wr w.heap.size #[.int .u8 k, .int .u8 a, .int .u8 bsn, .int .u8 fsn, .bool bib, .bool fib, .int .u8 kind, .int .u8 status, .bool wide, .slice ai info.length ci] 71) (fun i _ => nt - (intOf i).toNat)
    case atStart => exact ⟨0, by omega, rfl, V.out.to rfl (by omega), N1.out⟩
    case round =>
      obtain ⟨j, hjj, rfl, V9, N9⟩ := hrel
      have V3 := Lib.hid V9
      have N3 := Lib.hid N9
      have n3c := N9.c
      clear V9 N9
      by_cases hlt : j < nt
      · have hlt' : (j : Int) < nt := by omega
        have HT := Lib.hid (V3.out.tick (by omega))
        go_wp2_with (first | ((with_reducible refine HT.out.mono ?_); rintro e w8 ⟨rfl, V1, K1⟩; have Vf := Lib.hid V1; (have Nf := Lib.hid (K1.blk N3.out (by decide))); clear V1 K1))
        go_roundw
        case rel => exact ⟨j + 1, by omega, by go_num, Vf.out.to rfl (by omega), Nf.out⟩
        case measure => simp [intOf]; omega
      · obtain rfl : j = nt := by omega
        go_wp2
        go_end0
        exact ⟨rfl, V3.out.to A2.out (by omega)⟩
  have AD := Lib.hid (AD.out.trans (if_neg e11))
  have k11 : (m == 11) = false := beq_eq_false_iff_ne.2 e11
  by_cases m14 : m < 14
  · have A := Lib.hid (AD.out.trans (if_pos m14))
    go_enter Tryz.func42, Tryz.ntmps42
    go_wp2_with (first
      | ((with_reducible refine V.out.next.mono ?_); rintro e w4 ⟨vi, he, B1, V1, _⟩; (obtain ⟨ai, ci, rfl, _⟩ := B1.1.shape); subst he; have V4 := Lib.hid V1; clear V1 B1))
    go_end0
    exact ⟨rfl, V4.out.to A.out (by omega)⟩
  · have A := Lib.hid (AD.out.trans (if_neg m14))
    have HT := Lib.hid (V.out.tick (by omega))
    go_enter Tryz.func42, Tryz.ntmps42
    go_wp2_with (first
      | ((with_reducible refine HT.out.mono ?_); rintro e w4 ⟨rfl, V1, _⟩; have V4 := Lib.hid V1; clear V1))
    go_end0
    exact ⟨rfl, V4.out.to A.out (by omega)⟩
end Go.Proofs.YtdffinnnjcgfcaaGreatK
