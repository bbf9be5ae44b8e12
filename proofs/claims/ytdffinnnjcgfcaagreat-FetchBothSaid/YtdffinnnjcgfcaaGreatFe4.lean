/- The walk of layer 18's serving. -/
import Derived.Test.YtdffinnnjcgfcaaGreatFe0
import Derived.Test.YtdffinnnjcgfcaaGreatLf0
import Derived.Test.YtdffinnnjcgfcaaGreatLou
import Derived.Test.YtdffinnnjcgfcaaGreatFec
import Derived.Test.YtdffinnnjcgfcaaGreatMg
namespace Go.Proofs.YtdffinnnjcgfcaaGreatK
open Go Go.RowKit
set_option linter.unusedVariables false
set_option maxHeartbeats 4000000
set_option maxRecDepth 100000
section
variable {w0 w : World} {b : Nat} {x : St} {n : Int}
/-- A block that is none of theirs is written. -/
theorem Lk.farC (h : Lk w0 w b x n) {g : Nat} {cs : Array Value} {t : TypeId} (hg : Blk w g cs t) (ht : t ∉ linkTs) (h8 : t ≠ 5) (h0 : w0.heap.size ≤ g) (i : Nat) (u : Value) : Lk w0 (w.setCell ⟨g, i, none⟩ u) b x n := by
  obtain ⟨L, S, F⟩ := h.v.lay
  refine ⟨⟨bl_set h.v.bel h0 u, L, S.far (F := [g]) (off1 hg h8) (fun k hk hkg => ?_) (chg1 w g i u), F⟩, h.k, h.f⟩
  obtain ⟨cs', t', h1, h2⟩ := S.typed k hk
  obtain rfl : k = g := by simpa using hkg
  exact h1.ne hg (fun e => ht (e ▸ h2)) rfl
end
/-- A block that holds none of the octets is written. -/
theorem BytI.set1 {w : World} {v : Value} {xs : Oct} {g : Nat} (h : BytI w [] v xs) (ho : NoLk w v) (hg : g ∉ own v) (i : Nat) (u : Value) : BytI (w.setCell ⟨g, i, none⟩ u) [] v xs ∧ NoLk (w.setCell ⟨g, i, none⟩ u) v := by
  refine ⟨((h.off (F := [g]) (fun k hk hkg => ?_)).chg (chg1 w g i u) (by simp)).mono (by simp), fun k hk => ?_⟩
  · obtain rfl : k = g := by simpa using hkg
    exact hg hk
  · obtain ⟨o, h1, h2⟩ := ho k hk
    exact ⟨o, (Below.heap_setCell _ _ _ _ (show k ≠ g from fun e => hg (e ▸ hk))).trans h1, h2⟩
theorem Sv.take {x : St} {l : List Oct} {f : Int} (i : Nat) (hi : i < 100) (h : Sv x l f ((i + 127 : Nat) % 128 : Nat)) (hf : f = 0) : Sv (x.hear ⟨127, i, true, true, 2, 1, false, [97, 98, 99]⟩) l f ((i + 1 + 127 : Nat) % 128 : Nat) ∧ (x.hear ⟨127, i, true, true, 2, 1, false, [97, 98, 99]⟩).h.sent = x.h.sent := by
  have hp : x.h.prev = 127 := by
    have := h.first
    unfold Ho.prev; omega
  have hk := Ho.knows_prev x.h
  rw [hp] at hk
  have H := h.hear (u := ⟨127, i, true, true, 2, 1, false, [97, 98, 99]⟩) (show (2 : Int) ≠ 1 by decide) rfl rfl hk.1 (by show (x.h.gap 127).toNat ≤ _; rw [hk.2]; simp) (.inl ⟨rfl, by show (i : Int) = _; omega⟩)
  have e0 : (x.h.gap (⟨127, i, true, true, 2, 1, false, [97, 98, 99]⟩ : Un).bsn).toNat = 0 := by
    show (x.h.gap 127).toNat = 0
    rw [hk.2]; rfl
  rw [e0, List.drop_zero, List.drop_zero, if_pos rfl] at H
  have e1 : (((⟨127, i, true, true, 2, 1, false, [97, 98, 99]⟩ : Un).bsn + 1) % 128 : Int) = f := by rw [hf]; rfl
  have e2 : ((((i + 127 : Nat) % 128 : Nat) : Int) + 1) % 128 = ((i + 1 + 127 : Nat) % 128 : Nat) := by omega
  rw [e1, e2] at H
  exact H
theorem bornU_ok (c : Bool) : (bornU c).ok := St.ok_new (by cases c <;> decide) (by cases c <;> decide) (by cases c <;> decide) (by cases c <;> decide)
theorem bornU_few (c : Bool) : (bornU c).few 0 := by cases c <;> exact ⟨by decide, by decide, by decide⟩
theorem NewU_c (cyc : Bool) (w : World) : Calls Tryz.prog 35 #[Su.v ⟨cyc, 8, 300, 16, 600, 600, 12000, 8000, 4000, 1200, 100, 4000, 6000⟩] w fun e w' => ∃ b, e = .returned (.pointer (some ⟨b, 0, none⟩)) ∧ Lk w w' b (bornU cyc) 0 :=
  (SNew_c (usualS cyc) w).mono fun e w' ⟨b, L, he, S, B, F⟩ => ⟨b, he, ⟨B, L, S, F⟩, bornU_ok cyc, bornU_few cyc⟩
/-- The messages that a law hands in. -/
def msgsP (put : Int) (k : Nat) : List Oct := (List.range k).map fun (i : Nat) => [(i : Int), put, 9]
theorem msgsP_succ (put : Int) (k : Nat) : msgsP put (k + 1) = msgsP put k ++ [[(k : Int), put, 9]] := by simp [msgsP, List.range_succ]
theorem msgsP_len (put : Int) (k : Nat) : (msgsP put k).length = k := by simp [msgsP]
theorem msgsP_three (put : Int) (k : Nat) : ∀ p ∈ msgsP put k, p.length = 3 := by simp [msgsP]
abbrev uC (bsn fsn : Int) (kind : Int) (vi : Value) : Array Value := #[.int .u8 bsn, .int .u8 fsn, .bool true, .bool true, .int .u8 kind, .int .u8 1, .bool false, vi]
/-- What serving leaves. -/
structure Served (w0 w : World) (b : Nat) (v : Value) (np nt : Nat) (x : St) (l : List Oct) (f t : Int) : Prop where
  m : Lm w0 w b x 20000 v l
  s : Sv x l f t
  f0 : 0 ≤ f ∧ f ≤ 12
  t : t = ((nt + 127) % 128 : Nat)
  len : l.length + f ≤ 12
theorem serving18_c (cyc : Bool) (put send ans take : Int) (w : World) (hp : 0 ≤ put ∧ put ≤ 255) (hs : 0 ≤ send ∧ send ≤ 255) (ha : 0 ≤ ans ∧ ans ≤ 255) (ht : 0 ≤ take ∧ take ≤ 255) :
    Calls Tryz.prog 47 #[.bool cyc, .int .u8 put, .int .u8 send, .int .u8 ans, .int .u8 take] w fun e w' => ∃ b v x l f t, e = .returned (.tuple #[.pointer (some ⟨b, 0, none⟩), v]) ∧ Served w w' b v (put % 12).toNat (take % 9).toNat x l f t := by
  obtain ⟨np, hnp⟩ : ∃ np : Nat, put % 12 = np := ⟨(put % 12).toNat, by omega⟩
  obtain ⟨ns, hns⟩ : ∃ ns : Nat, send % 12 = ns := ⟨(send % 12).toNat, by omega⟩
  obtain ⟨nt, hnt⟩ : ∃ nt : Nat, take % 9 = nt := ⟨(take % 9).toNat, by omega⟩
  have np11 : np ≤ 11 := by omega
  have ns11 : ns ≤ 11 := by omega
  have nt8 : nt ≤ 8 := by omega
  have HU := Lib.hid (fun w => Usual_c cyc w)
  have o1 := Lib.hid (Un.ok_lk (i := 1) (by decide) (by decide))
  have of := Lib.hid (show fl1.ok from ⟨by decide, by decide, by decide, by decide, by decide⟩)
  have E1 := Lib.hid (show (((bornU cyc).order 1 []).1.hear (lk 1)).hear (lk 1) = upU cyc from rfl)
  have E2 := Lib.hid (show ((upU cyc).ticks 1300).hear fl1 = srvU cyc from rfl)
  have hmB := mB_Hold
  have hmC := mC_Hold
  go_enter Tryz.func47, Tryz.ntmps47
  go_upto_region 2 with (first
    | ((with_reducible refine (HU.out _).mono ?_); rintro e w1 ⟨rfl, hb1⟩)
    | ((with_reducible refine (NewU_c cyc _).mono ?_); rintro e w2 ⟨b, rfl, V0⟩; have V := Lib.hid (V0.base hb1); clear V0))
  obtain ⟨bw, bh, vs, vn, c17, hwy, hho⟩ := V.out.hold
  obtain ⟨ty, hty⟩ : ∃ ty, (bornU cyc).w.v bw = .iface ty (.pointer (some ⟨bw, 0, none⟩)) := by cases cyc <;> exact ⟨_, rfl⟩
  rw [hty] at c17
  clear hty hwy hho
  have W5 := Lib.hid (V.out.order0 1 (by decide))
  go_upto_region 8 with (first
    | ((with_reducible refine W5.out.mono ?_); rintro e w3 ⟨rfl, V1, _⟩; have V3 := Lib.hid V1; clear V1; have gu0 : w.heap.size ≤ w3.heap.size := V3.out.v.bel.size; have V4 := Lib.hid (V3.out.below (bl_alloc (bl_refl w3) (.cells (uC 127 127 1 nil0) 31))); have N4 := Lib.hid (Blk.new w3 (uC 127 127 1 nil0) 31); have n4c := N4.out.c; have H4 := Lib.hid (V4.out.hear0 (lk 1) (by omega) o1.out rfl))
    | ((with_reducible refine H4.out.mono ?_); rintro e w4 ⟨rfl, V1, K1⟩; have V5 := Lib.hid V1; have N5 := Lib.hid (K1.blk N4.out (by decide)); (have n5c := N5.out.c); have H5 := Lib.hid (V5.out.hear0 (lk 1) (by omega) o1.out rfl); clear V1 K1)
    | ((with_reducible refine H5.out.mono ?_); rintro e w5 ⟨rfl, V1, K1⟩; (rw [E1.out] at V1); have V6 := Lib.hid V1; have N6 := Lib.hid (K1.blk N5.out (by decide)); clear V1 K1))
  clear n4c n5c c17
  obtain ⟨gu, hgu⟩ : ∃ gu, w3.heap.size = gu := ⟨_, rfl⟩
  rw [hgu] at gu0 N6
  simp only [hgu]
  clear hgu N4 N5
  go_wp2
  go_loopw [14] (fun i wr => ∃ k : Nat, k ≤ 1300 ∧ i = .int .i64 k ∧ Lk w wr b ((upU cyc).ticks k) (20 + 8 * k) ∧ Blk wr gu (uC 127 127 1 nil0) 31) (fun i _ => 1300 - (intOf i).toNat)
  case atStart => exact ⟨0, by omega, rfl, ⟨V6.out.v, V6.out.k, V6.out.f.le (by omega)⟩, N6.out⟩
  case round =>
    obtain ⟨k, hk, rfl, V9, N9⟩ := hrel
    have V7 := Lib.hid V9
    have N7 := Lib.hid N9
    clear V9 N9
    by_cases hlt : k < 1300
    · have hlt' : (k : Int) < 1300 := by omega
      have HT := Lib.hid (V7.out.tick (by omega))
      go_wp2_with (first | ((with_reducible refine HT.out.mono ?_); rintro e w8 ⟨rfl, V1, K1⟩; have Vf := Lib.hid V1; have Nf := Lib.hid (K1.blk N7.out (by decide)); clear V1 K1))
      go_roundw
      case rel => exact ⟨k + 1, by omega, by go_num, ⟨Vf.out.v, Vf.out.k, Vf.out.f.le (by omega)⟩, Nf.out⟩
      case measure => simp [intOf]; omega
    · have hk13 : k = 1300 := by omega
      have kk : ¬ (k : Int) < 1300 := by omega
      have kk' : (1300 : Int) ≤ k := by omega
      have V8 := Lib.hid (show Lk w wr b ((upU cyc).ticks 1300) 10500 from by rw [← hk13]; exact ⟨V7.out.v, V7.out.k, V7.out.f.le (by omega)⟩)
      have n7c := N7.out.c
      have n7f := N7.out.f
      have V10 := Lib.hid (V8.out.farC N7.out (by decide) (by decide) gu0 4 (.int .u8 0))
      have N10 := Lib.hid (show Blk (wr.setCell ⟨gu, 4, none⟩ (.int .u8 0)) gu (uC 127 127 0 nil0) 31 from (N7.out.set 4 (.int .u8 0)).as (by simp))
      have H10 := Lib.hid (V10.out.hear0 fl1 (by decide) of.out rfl)
      clear V7 V8 hk13
      go_upto_region 15 with (first
        | ((with_reducible refine H10.out.mono ?_); rintro e w9 ⟨rfl, V1, K1⟩; (rw [E2.out] at V1); have V11 := Lib.hid V1; have N11 := Lib.hid (K1.blk N10.out (by decide)); clear V1 K1))
      clear n7c n7f
      have S11 := Lib.hid (srvU_sv cyc)
      have Q11 := Lib.hid (show (srvU cyc).h.sent = [] from by rw [srvU_eq]; rfl)
      generalize srvU cyc = x0 at V11 S11 Q11
      have M11 := Lib.hid V11.out.lm
      go_wp2
      go_loopw [15, 16] (fun vl i wr => ∃ (k : Nat) (x : St) (v : Value), k ≤ np ∧ vl = v ∧ i = .int .i64 k ∧ Lm w wr b x (11000 + 2 * k) v (msgsP put k) ∧ Sv x (msgsP put k) 0 127 ∧ x.h.sent = [] ∧ Blk wr gu (uC 127 127 0 nil0) 31) (fun _ i _ => np - (intOf i).toNat)
      case atStart => exact ⟨0, x0, nil0, by omega, rfl, rfl, M11.out.to rfl (by omega), S11.out, Q11.out, N11.out⟩
      case round =>
        clear V11 M11 S11 Q11 N11 V10 N10 H10
        obtain ⟨k, x, v, hk, rfl, rfl, M9, S9, Q9, N9⟩ := hrel
        have M := Lib.hid M9
        have SV := Lib.hid S9
        have QS := Lib.hid Q9
        have N := Lib.hid N9
        clear M9 S9 Q9 N9
        by_cases hlt : k < np
        · have hlt' : (k : Int) < np := by omega
          have hk11 : (k : Int) ≤ 10 := by omega
          have PU := Lib.hid (SV.out.put (by rw [msgsP_len]; omega) (msgsP_three put k) (p := [(k : Int), put, 9]) rfl)
          have BP := Lib.hid (byt_new3 (w := wr) (x := (k : Int)) (y := put) (z := 9) (by omega) hp (by decide))
          have HT := Lib.hid ((M.out.below (bl_alloc (bl_refl wr) (.cells #[.int .u8 k, .int .u8 put, .int .u8 9] 5))).order (by omega) 5 BP.out.i0 (by simp))
          have N1 := Lib.hid (N.out.alloc (.cells #[.int .u8 k, .int .u8 put, .int .u8 9] 5))
          go_upto_region 20 with (first
            | ((with_reducible refine HT.out.mono ?_); rintro e w4 ⟨he, V1, K1⟩; (rw [PU.out.1] at he); subst he; have M4 := Lib.hid V1; have N4 := Lib.hid (K1.blk N1.out (by decide)); have B4 := Lib.hid (K1.byt BP.out); clear V1 K1))
          have M5 := Lib.hid (M4.out.below (bl_alloc (bl_refl w4) (.cells #[.slice (some ⟨wr.heap.size, 0, none⟩) 3 3] 27)))
          have N5 := Lib.hid (N4.out.alloc (.cells #[.slice (some ⟨wr.heap.size, 0, none⟩) 3 3] 27))
          have B5 := Lib.hid (Byt.below B4.out (bl_alloc (bl_refl w4) (.cells #[.slice (some ⟨wr.heap.size, 0, none⟩) 3 3] 27)))
          obtain ⟨L5, S5, Bw5, F5, Ms5, D5, G5⟩ := M5.out.m
          obtain ⟨vs5, R5, HV5⟩ := Ms5
          have HS5 := Lib.hid S5
          have HW5 := Lib.hid Bw5
          have HF5 := Lib.hid F5
          have HR5 := Lib.hid R5
          have HH5 := Lib.hid HV5
          have HD5 := Lib.hid D5
          have HG5 := Lib.hid G5
          clear S5 Bw5 F5 R5 HV5 D5 G5
          go_wp2_with (first
            | (refine wpList_row_append _ rfl (.tmp 68) (.tmp 70) 81 rfl 27 Tryz.t27 (.slice none 0 0) 1 24 Tryz.underlying81 rfl rfl rfl rfl rfl (by decide) _ (msgsP put k).length vs5 rfl HR5.out ⟨w4.heap.size, 0, none⟩ 1 1 [.slice (some ⟨wr.heap.size, 0, none⟩) 3 3] rfl rfl (fun j u hu => by
                rw [Addr.add_lit, (Blk.new w4 _ _).c, Nat.zero_add]; simpa using hu) (by simp [Value.oneCell']) (by decide) (by rw [msgsP_len]; simp [maxLen]; omega) (by rw [msgsP_len]; omega) ?_; intro v6 w6 R6 C6 O6; have M6 := Lib.hid (Lm.grow M5.out.k M5.out.f HS5.out HW5.out HF5.out HR5.out HH5.out HD5.out HG5.out B5.out R6 C6 O6); have N6 := Lib.hid (N5.out.chg C6 (fun hg => by obtain ⟨cs, h9⟩ := HR5.out.blk gu hg; exact N5.out.ne h9 (by decide) rfl)); clear R6 C6 O6))
          go_roundw
          case rel => exact ⟨k + 1, _, _, by omega, rfl, by go_num, (msgsP_succ put k ▸ M6.out).to rfl (by omega), msgsP_succ put k ▸ PU.out.2.1, by rw [PU.out.2.2]; exact QS.out, N6.out⟩
          case measure => simp [intOf]; omega
        · obtain rfl : k = np := by omega
          have kk : ¬ (k : Int) < k := by omega
          go_wp2
          have S12 := Lib.hid SV.out
          clear SV
          go_loopw [18] (fun i wr => ∃ (j : Nat) (x : St), j ≤ ns ∧ i = .int .i64 j ∧ Lm w wr b x (11000 + 2 * k) u15 (msgsP put k) ∧ Sv x (msgsP put k) 0 127 ∧ Blk wr gu (uC 127 127 0 nil0) 31) (fun i _ => ns - (intOf i).toNat)
          case atStart => exact ⟨0, x, by omega, rfl, M.out, S12.out, N.out⟩
          case round =>
            clear M S12 QS N
            obtain ⟨j, x, hj, rfl, M9, S9, N9⟩ := hrel
            have M := Lib.hid M9
            have SV := Lib.hid S9
            have N := Lib.hid N9
            clear M9 S9 N9
            by_cases hlt : j < ns
            · have hlt' : (j : Int) < ns := by omega
              have HN := Lib.hid M.out.next
              have SN := Lib.hid SV.out.next
              go_wp2_with (first | ((with_reducible refine HN.out.mono ?_); rintro e w8 ⟨vi, rfl, _, V1, K1⟩; have Mf := Lib.hid V1; have Nf := Lib.hid (K1.blk N.out (by decide)); clear V1 K1))
              go_roundw
              case rel => exact ⟨j + 1, _, by omega, by go_num, Mf.out, SN.out, Nf.out⟩
              case measure => simp [intOf]; omega
            · obtain rfl : j = ns := by omega
              have kk1 : ¬ (j : Int) < j := by omega
              go_wp2
              have S13 := Lib.hid SV.out
              clear SV
              go_loopw [19] (fun i wr => ∃ (c : Nat) (x : St) (fs kd : Int) (vi : Value) (info : Oct), c ≤ nt ∧ i = .int .i64 c ∧ Lm w wr b x (11100 + 6 * c) u15 (msgsP put k) ∧ Sv x (msgsP put k) 0 ((c + 127 : Nat) % 128 : Nat) ∧ Blk wr gu (uC 127 fs kd vi) 31 ∧ BytI wr [] vi info ∧ NoLk wr vi ∧ gu ∉ own vi ∧ info.length ≤ 3) (fun i _ => nt - (intOf i).toNat)
              case atStart => exact ⟨0, x, 127, 0, nil0, [], by omega, rfl, M.out.to rfl (by omega), S13.out, N.out, byt_nil.i0, noLk_nil, by simp [own, Value.ownBlock], by simp⟩
              case round =>
                clear M S13 N
                obtain ⟨c, x, fs, kd, vi, info, hc, rfl, M9, S9, N9, I9, J9, G9, L9⟩ := hrel
                have M := Lib.hid M9
                have SV := Lib.hid S9
                have N := Lib.hid N9
                have nc := N9.c
                have nf := N9.f
                have BI := Lib.hid (And.intro I9 J9)
                have BG := Lib.hid (And.intro G9 L9)
                clear M9 S9 N9 I9 J9 G9 L9
                by_cases hlt : c < nt
                · have hlt' : (c : Int) < nt := by omega
                  have hc8 : (c : Int) ≤ 8 := by omega
                  have M1 := Lib.hid (M.out.far N.out (by decide) (by decide) (by decide) gu0 4 (.int .u8 2))
                  have N1 := Lib.hid (show Blk (wr.setCell ⟨gu, 4, none⟩ (.int .u8 2)) gu (uC 127 fs 2 vi) 31 from (N.out.set 4 (.int .u8 2)).as (by simp))
                  have M2 := Lib.hid (M1.out.far N1.out (by decide) (by decide) (by decide) gu0 1 (.int .u8 c))
                  have N2 := Lib.hid (show Blk ((wr.setCell ⟨gu, 4, none⟩ (.int .u8 2)).setCell ⟨gu, 1, none⟩ (.int .u8 c)) gu (uC 127 c 2 vi) 31 from (N1.out.set 1 (.int .u8 c)).as (by simp))
                  have M3 := Lib.hid (M2.out.below (bl_alloc (bl_refl _) abc))
                  have N3 := Lib.hid (N2.out.alloc abc)
                  have n3f := N3.out.f
                  have n3c := N3.out.c
                  have hcv := conv_abc ((wr.setCell ⟨gu, 4, none⟩ (.int .u8 2)).setCell ⟨gu, 1, none⟩ (.int .u8 c)) wr.heap.size (by simp)
                  have B4 := Lib.hid (BytI.set1 (byt_abc (w := ((wr.setCell ⟨gu, 4, none⟩ (.int .u8 2)).setCell ⟨gu, 1, none⟩ (.int .u8 c))) (g := wr.heap.size) (by simp) rfl) (noLk_abc (by simp) rfl) (g := gu) (by have hgl : gu < wr.heap.size := N.out.lt; simp [own, Value.ownBlock]; omega) 7 (.slice (some ⟨wr.heap.size, 0, none⟩) 3 3))
                  have M4 := Lib.hid (M3.out.far N3.out (by decide) (by decide) (by decide) gu0 7 (.slice (some ⟨wr.heap.size, 0, none⟩) 3 3))
                  have N4 := Lib.hid (show Blk ((((wr.setCell ⟨gu, 4, none⟩ (.int .u8 2)).setCell ⟨gu, 1, none⟩ (.int .u8 c)).alloc abc).setCell ⟨gu, 7, none⟩ (.slice (some ⟨wr.heap.size, 0, none⟩) 3 3)) gu (uC 127 c 2 (.slice (some ⟨wr.heap.size, 0, none⟩) 3 3)) 31 from (N3.out.set 7 (.slice (some ⟨wr.heap.size, 0, none⟩) 3 3)).as (by simp))
                  have HH := Lib.hid (M4.out.hearN (by omega) (u := ⟨127, c, true, true, 2, 1, false, [97, 98, 99]⟩) ⟨show (0 : Int) ≤ 127 ∧ (127 : Int) ≤ 255 by decide, show 0 ≤ (c : Int) ∧ (c : Int) ≤ 255 by omega, show (0 : Int) ≤ 2 ∧ (2 : Int) ≤ 255 by decide, show (0 : Int) ≤ 1 ∧ (1 : Int) ≤ 255 by decide, by simp⟩ B4.out.1 B4.out.2)
                  have SN := Lib.hid (SV.out.take c (by omega) rfl)
                  have n4c := N4.out.c
                  go_wp2_with (first | ((with_reducible refine HH.out.mono ?_); rintro e w8 ⟨rfl, V1, K1⟩; have Mf := Lib.hid V1; have Nf := Lib.hid (K1.blk N4.out (by decide)); have If := Lib.hid (K1.bytI B4.out.1 B4.out.2); clear V1 K1))
                  go_roundw
                  case rel => exact ⟨c + 1, _, _, _, _, _, by omega, by go_num, Mf.out.to rfl (by omega), SN.out.1, Nf.out, If.out.1, If.out.2, by have hgl : gu < wr.heap.size := N.out.lt; simp [own, Value.ownBlock]; omega, by simp⟩
                  case measure => simp [intOf]; omega
                · obtain rfl : c = nt := by omega
                  have kk2 : ¬ (c : Int) < c := by omega
                  obtain ⟨bw2, bh2, vs2, vn2, c17, hwy, hho⟩ := M.out.lk.hold
                  have nbg : b ≠ gu := by
                    obtain ⟨L, S, _⟩ := M.out.m
                    exact S.st.ne N.out (by decide)
                  obtain ⟨s, hs⟩ : ∃ s, x.h.sent.length = s := ⟨_, rfl⟩
                  have sl := SV.out.len
                  rw [hs, msgsP_len] at sl
                  have hn1 := HSent_c hho
                  rw [hs] at hn1
                  have HN := Lib.hid hn1
                  obtain ⟨y9, hy9⟩ : ∃ y9, x.w = y9 := ⟨_, rfl⟩
                  rw [hy9] at c17 hwy
                  have HW := Lib.hid hwy
                  obtain ⟨tq, htq⟩ : ∃ tq : Nat, (c + 127) % 128 = tq := ⟨_, rfl⟩
                  have SV2 := SV.out
                  rw [htq] at SV2
                  have tq1 : tq ≤ 127 := by omega
                  have HL := Lib.hid (show y9.last = (tq : Int) from by rw [← hy9]; exact SV2.last)
                  have SW := Lib.hid SV2
                  have HQ := Lib.hid htq
                  have HS := Lib.hid hs
                  clear hwy hho hn1 hy9 hs htq SV2
                  have hmTB := mB_Taken
                  have hmTC := mC_Taken
                  obtain ⟨al, cl, ev, hcl⟩ := M.out.msg.shape
                  rw [msgsP_len] at ev hcl
                  subst ev
                  by_cases s0 : s = 0
                  · subst s0
                    cases y9
                    all_goals
                      simp only [Wy.v] at c17
                      go_wp2_with (first
                        | ((with_reducible refine (BHold_c HW.out).mono ?_); rintro e w9 ⟨rfl, rfl⟩)
                        | ((with_reducible refine (CHold_c HW.out).mono ?_); rintro e w9 ⟨rfl, rfl⟩)
                        | ((with_reducible refine HN.out.mono ?_); rintro e w10 ⟨rfl, rfl⟩))
                      go_ret2
                      refine ⟨b, _, x, msgsP put k, 0, (tq : Int), rfl, ?_⟩
                      exact ⟨M.out.to rfl (by omega), SW.out, ⟨by omega, by omega⟩, by rw [← HQ.out]; omega, by rw [msgsP_len]; omega⟩
                  · obtain ⟨a, hab⟩ : ∃ a : Nat, ans % (s : Int) = a := ⟨(ans % (s : Int)).toNat, by have := Int.emod_nonneg ans (show (s : Int) ≠ 0 by omega); omega⟩
                    have has : a < s := by have := Int.emod_lt_of_pos ans (show (0 : Int) < (s : Int) by omega); omega
                    have s1 : (0 : Int) < (s : Int) := by omega
                    have sz : ((s : Int) == 0) = false := beq_eq_false_iff_ne.2 (by omega)
                    have ha11 : (a : Int) ≤ 11 := by omega
                    have hak : (a : Int) < (k : Int) := by omega
                    have hakn : a < k := by omega
                    have s1n : 0 < s := by omega
                    have M1 := Lib.hid (M.out.far N.out (by decide) (by decide) (by decide) gu0 0 (.int .u8 a))
                    have N1 := Lib.hid (show Blk (wr.setCell ⟨gu, 0, none⟩ (.int .u8 a)) gu (uC a fs kd vi) 31 from (N.out.set 0 (.int .u8 a)).as (by simp))
                    have M2 := Lib.hid (M1.out.far N1.out (by decide) (by decide) (by decide) gu0 4 (.int .u8 0))
                    have N2 := Lib.hid (show Blk ((wr.setCell ⟨gu, 0, none⟩ (.int .u8 a)).setCell ⟨gu, 4, none⟩ (.int .u8 0)) gu (uC a fs 0 vi) 31 from (N1.out.set 4 (.int .u8 0)).as (by simp))
                    have M3 := Lib.hid (M2.out.far N2.out (by decide) (by decide) (by decide) gu0 1 (.int .u8 tq))
                    have N3 := Lib.hid (show Blk (((wr.setCell ⟨gu, 0, none⟩ (.int .u8 a)).setCell ⟨gu, 4, none⟩ (.int .u8 0)).setCell ⟨gu, 1, none⟩ (.int .u8 tq)) gu (uC a tq 0 vi) 31 from (N2.out.set 1 (.int .u8 tq)).as (by simp))
                    have b1 := BytI.set1 BI.out.1 BI.out.2 BG.out.1 0 (.int .u8 a)
                    have b2 := BytI.set1 b1.1 b1.2 BG.out.1 4 (.int .u8 0)
                    have b3 := BytI.set1 b2.1 b2.2 BG.out.1 1 (.int .u8 tq)
                    have HH := Lib.hid (M3.out.hearN (by omega) (u := ⟨a, tq, true, true, 0, 1, false, info⟩) ⟨show 0 ≤ (a : Int) ∧ (a : Int) ≤ 255 by omega, show 0 ≤ (tq : Int) ∧ (tq : Int) ≤ 255 by omega, show (0 : Int) ≤ 0 ∧ (0 : Int) ≤ 255 by decide, show (0 : Int) ≤ 1 ∧ (1 : Int) ≤ 255 by decide, by have := BG.out.2; show info.length ≤ 1000; omega⟩ b3.1 b3.2)
                    have SN := Lib.hid (SW.out.ans a (by rw [HS.out]; omega) (by rw [HS.out]; omega) info)
                    have n3c := N3.out.c
                    clear b1 b2 b3 s0
                    by_cases hcl1 : cl = a + 1
                    · subst hcl1
                      cases y9 with
                      | bs q =>
                        simp only [Wy.v] at c17
                        have nwg : bw2 ≠ gu := HW.out.ne N.out (show (206 : TypeId) ≠ 31 from by decide)
                        have HT := Lib.hid (show Calls Tryz.prog 208 #[.pointer (some ⟨bw2, 0, none⟩)] ((wr.setCell ⟨gu, 0, none⟩ (.int .u8 a)).setCell ⟨gu, 4, none⟩ (.int .u8 0)) (fun e w' => e = .returned (.int .u8 tq) ∧ ((wr.setCell ⟨gu, 0, none⟩ (.int .u8 a)).setCell ⟨gu, 4, none⟩ (.int .u8 0)) = w') from by
                          have h9 := BTaken_c (HW.out.chg (F := [gu]) ((chg1 wr gu 0 (.int .u8 a)).set (b := gu) (i := 4) (by simp) (.int .u8 0)) (by simpa using nwg))
                          rwa [show q.last = (tq : Int) from HL.out] at h9)
                        go_wp2_with (first
                          | ((with_reducible refine (BHold_c HW.out).mono ?_); rintro e w9 ⟨rfl, rfl⟩)
                          | ((with_reducible refine HN.out.mono ?_); rintro e w10 ⟨rfl, rfl⟩)
                          | ((with_reducible refine HT.out.mono ?_); rintro e w11 ⟨rfl, rfl⟩)
                          | ((with_reducible refine HH.out.mono ?_); rintro e w12 ⟨rfl, V1, K1⟩; have M4 := Lib.hid (V1.cut (a + 1) (by rw [msgsP_len]; omega)); have n4c := (K1.blk N3.out (by decide)).c; clear V1 K1))
                        go_ret2
                        have h9 := M4.out
                        rw [if_pos (by first | trivial | rfl), show k - (a + 1) = 0 by omega, Nat.sub_self] at h9
                        have h8 := h9.to (m := 20000) rfl (by omega)
                        refine ⟨b, _, _, _, (a + 1 : Nat), _, rfl, h8, SN.out, ⟨by omega, by omega⟩, by rw [← HQ.out]; omega, by rw [List.length_drop, msgsP_len]; omega⟩
                      | cy q =>
                        simp only [Wy.v] at c17
                        have nwg : bw2 ≠ gu := HW.out.ne N.out (show (204 : TypeId) ≠ 31 from by decide)
                        have HT := Lib.hid (show Calls Tryz.prog 189 #[.pointer (some ⟨bw2, 0, none⟩)] ((wr.setCell ⟨gu, 0, none⟩ (.int .u8 a)).setCell ⟨gu, 4, none⟩ (.int .u8 0)) (fun e w' => e = .returned (.int .u8 tq) ∧ ((wr.setCell ⟨gu, 0, none⟩ (.int .u8 a)).setCell ⟨gu, 4, none⟩ (.int .u8 0)) = w') from by
                          have h9 := CTaken_c (HW.out.chg (F := [gu]) ((chg1 wr gu 0 (.int .u8 a)).set (b := gu) (i := 4) (by simp) (.int .u8 0)) (by simpa using nwg))
                          rwa [show q.last = (tq : Int) from HL.out] at h9)
                        go_wp2_with (first
                          | ((with_reducible refine (CHold_c HW.out).mono ?_); rintro e w9 ⟨rfl, rfl⟩)
                          | ((with_reducible refine HN.out.mono ?_); rintro e w10 ⟨rfl, rfl⟩)
                          | ((with_reducible refine HT.out.mono ?_); rintro e w11 ⟨rfl, rfl⟩)
                          | ((with_reducible refine HH.out.mono ?_); rintro e w12 ⟨rfl, V1, K1⟩; have M4 := Lib.hid (V1.cut (a + 1) (by rw [msgsP_len]; omega)); have n4c := (K1.blk N3.out (by decide)).c; clear V1 K1))
                        go_ret2
                        have h9 := M4.out
                        rw [if_pos (by first | trivial | rfl), show k - (a + 1) = 0 by omega, Nat.sub_self] at h9
                        have h8 := h9.to (m := 20000) rfl (by omega)
                        refine ⟨b, _, _, _, (a + 1 : Nat), _, rfl, h8, SN.out, ⟨by omega, by omega⟩, by rw [← HQ.out]; omega, by rw [List.length_drop, msgsP_len]; omega⟩
                    · cases y9 with
                      | bs q =>
                        simp only [Wy.v] at c17
                        have nwg : bw2 ≠ gu := HW.out.ne N.out (show (206 : TypeId) ≠ 31 from by decide)
                        have HT := Lib.hid (show Calls Tryz.prog 208 #[.pointer (some ⟨bw2, 0, none⟩)] ((wr.setCell ⟨gu, 0, none⟩ (.int .u8 a)).setCell ⟨gu, 4, none⟩ (.int .u8 0)) (fun e w' => e = .returned (.int .u8 tq) ∧ ((wr.setCell ⟨gu, 0, none⟩ (.int .u8 a)).setCell ⟨gu, 4, none⟩ (.int .u8 0)) = w') from by
                          have h9 := BTaken_c (HW.out.chg (F := [gu]) ((chg1 wr gu 0 (.int .u8 a)).set (b := gu) (i := 4) (by simp) (.int .u8 0)) (by simpa using nwg))
                          rwa [show q.last = (tq : Int) from HL.out] at h9)
                        go_wp2_with (first
                          | ((with_reducible refine (BHold_c HW.out).mono ?_); rintro e w9 ⟨rfl, rfl⟩)
                          | ((with_reducible refine HN.out.mono ?_); rintro e w10 ⟨rfl, rfl⟩)
                          | ((with_reducible refine HT.out.mono ?_); rintro e w11 ⟨rfl, rfl⟩)
                          | ((with_reducible refine HH.out.mono ?_); rintro e w12 ⟨rfl, V1, K1⟩; have M4 := Lib.hid (V1.cut (a + 1) (by rw [msgsP_len]; omega)); have n4c := (K1.blk N3.out (by decide)).c; clear V1 K1))
                        go_ret2
                        have h9 := M4.out
                        rw [if_neg hcl1] at h9
                        simp only [Addr.add_succ'] at h9
                        have h8 := h9.to (m := 20000) rfl (by omega)
                        refine ⟨b, _, _, _, (a + 1 : Nat), _, rfl, h8, SN.out, ⟨by omega, by omega⟩, by rw [← HQ.out]; omega, by rw [List.length_drop, msgsP_len]; omega⟩
                      | cy q =>
                        simp only [Wy.v] at c17
                        have nwg : bw2 ≠ gu := HW.out.ne N.out (show (204 : TypeId) ≠ 31 from by decide)
                        have HT := Lib.hid (show Calls Tryz.prog 189 #[.pointer (some ⟨bw2, 0, none⟩)] ((wr.setCell ⟨gu, 0, none⟩ (.int .u8 a)).setCell ⟨gu, 4, none⟩ (.int .u8 0)) (fun e w' => e = .returned (.int .u8 tq) ∧ ((wr.setCell ⟨gu, 0, none⟩ (.int .u8 a)).setCell ⟨gu, 4, none⟩ (.int .u8 0)) = w') from by
                          have h9 := CTaken_c (HW.out.chg (F := [gu]) ((chg1 wr gu 0 (.int .u8 a)).set (b := gu) (i := 4) (by simp) (.int .u8 0)) (by simpa using nwg))
                          rwa [show q.last = (tq : Int) from HL.out] at h9)
                        go_wp2_with (first
                          | ((with_reducible refine (CHold_c HW.out).mono ?_); rintro e w9 ⟨rfl, rfl⟩)
                          | ((with_reducible refine HN.out.mono ?_); rintro e w10 ⟨rfl, rfl⟩)
                          | ((with_reducible refine HT.out.mono ?_); rintro e w11 ⟨rfl, rfl⟩)
                          | ((with_reducible refine HH.out.mono ?_); rintro e w12 ⟨rfl, V1, K1⟩; have M4 := Lib.hid (V1.cut (a + 1) (by rw [msgsP_len]; omega)); have n4c := (K1.blk N3.out (by decide)).c; clear V1 K1))
                        go_ret2
                        have h9 := M4.out
                        rw [if_neg hcl1] at h9
                        simp only [Addr.add_succ'] at h9
                        have h8 := h9.to (m := 20000) rfl (by omega)
                        refine ⟨b, _, _, _, (a + 1 : Nat), _, rfl, h8, SN.out, ⟨by omega, by omega⟩, by rw [← HQ.out]; omega, by rw [List.length_drop, msgsP_len]; omega⟩
end Go.Proofs.YtdffinnnjcgfcaaGreatK
