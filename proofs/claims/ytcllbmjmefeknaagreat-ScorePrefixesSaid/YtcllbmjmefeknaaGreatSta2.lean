/- The walks of package state, continued: Tick, New, Wrong, Fails. -/
import Derived.Test.YtcllbmjmefeknaaGreatClk2
import Derived.Test.YtcllbmjmefeknaaGreatSt7
import Derived.Deep.RegionHeld3
namespace Go.Proofs.YtcllbmjmefeknaaGreatK
open Go Go.RowKit
set_option linter.unusedVariables false
set_option maxHeartbeats 8000000
set_option maxRecDepth 100000
theorem STick_c {w : World} {b : Nat} {x : St} {L : Lay} (h : StAt w b x L) (hk : x.ok) (hf : x.few 900000) :
    Calls Tryz.prog 100 #[.pointer (some ⟨b, 0, none⟩)] w fun e w' => e = .returned (.tuple #[]) ∧ StTo w w' b x.tick L := by
  have H := Lib.hid h
  have HF := Lib.hid hf
  have HC := Lib.hid hk.c
  have hc := h.st.c
  have hlen := Ck.rang_len x.c
  clear h hf hk
  go_enter Tryz.func100, Tryz.ntmps100
  go_wp2_with (first
    | ((with_reducible refine (Tick_c H.out.ck HC.out).mono ?_); rintro e w1 ⟨v, rfl, R1, F1, C1, G1⟩; (obtain ⟨al, cl, rfl, _⟩ := R1.shape); (have S1 := Lib.hid (H.out.byC C1 G1)); (have HG1 := Lib.hid G1); (have HR1 := Lib.hid R1); (have HC1 := Lib.hid C1); clear G1 R1 F1 C1 hc))
  go_loopw [3, 12] (fun _ i wr => ∃ k : Nat, k ≤ x.c.rang.length ∧ i = .int .i64 k ∧ StTo w1 wr b ((x.c.rang.take k).foldl St.out { x with c := x.c.tick }) L) (fun _ i _ => x.c.rang.length - (intOf i).toNat)
  case atStart => exact ⟨0, Nat.zero_le _, rfl, StTo.same S1.out⟩
  case round =>
    obtain ⟨k, hkn, rfl, T⟩ := hrel
    by_cases hlt : k < x.c.rang.length
    · have hn : ¬ x.c.rang.length = 0 := by omega
      obtain ⟨i, hi⟩ : ∃ i, x.c.rang[k] = i := ⟨_, rfl⟩
      have e9 : (x.c.rang.take (k + 1)).foldl St.out { x with c := x.c.tick } = ((x.c.rang.take k).foldl St.out { x with c := x.c.tick }).out i := by
        rw [List.take_succ_eq_append_getElem hlt, List.foldl_append, hi]; rfl
      have fy : ((x.c.rang.take k).foldl St.out { x with c := x.c.tick }).few 1000000 := by
        have h1 := St.few_outs (x.c.rang.take k) (x := { x with c := x.c.tick }) (n := 900000) HF.out
        exact h1.le (by rw [List.length_take]; omega)
      obtain ⟨L2, S2, G2, O2⟩ := T
      have R2 := HR1.out.chg G2 (fun g hg hF => by
        obtain ⟨cs, h1⟩ := HR1.out.blk g hg
        exact (S1.out.typed.off (t := 3) (by decide)).notin h1 hF)
      rcases R2.2 with ⟨hv, h0⟩ | ⟨bl, off, cap, cs, hv, h1, h2, h3, h4, h5⟩
      · exact absurd h0 hn
      injection hv with e1 e2 e3
      subst e1 e3
      have hcell : wr.cell? ⟨bl, off + k, none⟩ = some (.int .i64 i) := by
        rw [h3.c]
        exact h5 k _ (by simp [hlt, hi])
      generalize (x.c.rang.take k).foldl St.out { x with c := x.c.tick } = y at *
      have HE := Lib.hid e9
      have HFY := Lib.hid fy
      have HS2 := Lib.hid S2
      have HG2 := Lib.hid G2
      have HO2 := Lib.hid O2
      clear e9 fy S2 G2 O2 R2 h2 h3 h4 h5 hi
      go_wp2_with (first | ((with_reducible refine (Out_c HS2.out HFY.out i).mono ?_); rintro e w3 ⟨rfl, T3⟩))
      go_roundw
      case rel => exact ⟨k + 1, by omega, by go_num, by rw [HE.out]; exact StTo.then HG2.out HO2.out T3⟩
      case measure => simp [intOf]; omega
    · have : k = x.c.rang.length := by omega
      subst this
      rw [List.take_length] at T
      have HT := Lib.hid T
      clear T
      go_wp2
      go_end0
      exact ⟨rfl, StTo.stepC HG1.out HT.out⟩
theorem new_end {w w0 w3 w4 w5 : World} {s : Su} {bc ba bj bw bh : Nat} {wy : Wy} {cs : Array Value} (B0 : Below w.heap.size w w0) (C0 : CkAt w0 bc Ck.none) (A3 : AlAt w3 ba s bc ⟨0, false, false, ⟨false, 0, 0⟩⟩) (J4 : JmAt w4 bj s bc ⟨false, false, false⟩)
    (H5 : HoAt w5 bh (Ho.none s.hd s.oc) nil0 nil0) (Y5 : WyAt w5 bw bh wy) (la : w0.heap.size ≤ ba) (lj : w3.heap.size ≤ bj) (lw : w4.heap.size ≤ bw) (lh : w4.heap.size ≤ bh)
    (B3 : Below w0.heap.size w0 w3) (B4 : Below w3.heap.size w3 w4) (B5 : Below w4.heap.size w4 w5) (lc : w.heap.size ≤ bc) (ew : Wy.of s = wy) (hcs : (St.new s).cells ⟨bc, ba, bj, bw, bh, nil0, nil0, nil0⟩ = cs) :
    ∃ b L, Ending.returned (.pointer (some ⟨w5.heap.size, 0, none⟩)) = Ending.returned (.pointer (some ⟨b, 0, none⟩)) ∧ StAt (w5.alloc (.cells cs 62)) b (St.new s) L ∧ Below w.heap.size w (w5.alloc (.cells cs 62)) ∧ ∀ k ∈ stF b L, w.heap.size ≤ k := by
  subst ew
  subst hcs
  have s0 := B0.size
  have s3 := B3.size
  have s4 := B4.size
  have s5 := B5.size
  have ba5 := bl_alloc (bl_refl w5) (.cells ((St.new s).cells ⟨bc, ba, bj, bw, bh, nil0, nil0, nil0⟩) 62)
  refine ⟨w5.heap.size, ⟨bc, ba, bj, bw, bh, nil0, nil0, nil0⟩, rfl, ⟨Blk.new _ _ _, (((C0.below B3).below B4).below B5).below ba5, ((A3.below B4).below B5).below ba5, (J4.below B5).below ba5, Y5.below ba5, H5.below ba5, Tolds.nil⟩, bl_then (bl_then (bl_then (bl_then B0 B3) B4) B5) ba5, ?_⟩
  intro k hk
  simp [stF, own, Value.ownBlock] at hk
  rcases hk with rfl | rfl | rfl | rfl | rfl | rfl <;> omega
theorem SNew_c (s : Su) (w : World) :
    Calls Tryz.prog 98 #[s.v] w fun e w' => ∃ b L, e = .returned (.pointer (some ⟨b, 0, none⟩)) ∧ StAt w' b (St.new s) L ∧ Below w.heap.size w w' ∧ ∀ k ∈ stF b L, w.heap.size ≤ k := by
  have WN := Lib.hid (fun w => WNew_c s w)
  obtain ⟨cyc, n1, n2, hd, oc, t0, t1, t2, t3, t4, t5, t6, t7⟩ := s
  cases cyc
  · have WN := Lib.hid (show ∀ w' : World, Calls Tryz.prog 115 #[(⟨false, n1, n2, hd, oc, t0, t1, t2, t3, t4, t5, t6, t7⟩ : Su).v] w' fun e w'' => ∃ b bh, e = .returned (.iface 239 (.pointer (some ⟨b, 0, none⟩))) ∧ w'.heap.size ≤ b ∧ w'.heap.size ≤ bh ∧ HoAt w'' bh (Ho.none hd oc) nil0 nil0 ∧ WyAt w'' b bh (.bs Bs.zero) ∧ Below w'.heap.size w' w'' from WN.out)
    go_enter Tryz.func98, Tryz.ntmps98
    go_upto_region 2 with fail
    have hB1 : Below w.heap.size w ((w.alloc (.cells #[.bool false, .int .i64 n1, .int .i64 n2, .int .i64 hd, .int .i64 oc, .int .i64 t0, .int .i64 t1, .int .i64 t2, .int .i64 t3, .int .i64 t4, .int .i64 t5, .int .i64 t6, .int .i64 t7] 24)).alloc (.cells #[.int .i64 0, .int .i64 0, .int .i64 0, .int .i64 0, .int .i64 0, .int .i64 0, .int .i64 0, .int .i64 0] 210)) := bl_alloc (bl_alloc (bl_refl w) _) _
    have hK1 : Blk ((w.alloc (.cells #[.bool false, .int .i64 n1, .int .i64 n2, .int .i64 hd, .int .i64 oc, .int .i64 t0, .int .i64 t1, .int .i64 t2, .int .i64 t3, .int .i64 t4, .int .i64 t5, .int .i64 t6, .int .i64 t7] 24)).alloc (.cells #[.int .i64 0, .int .i64 0, .int .i64 0, .int .i64 0, .int .i64 0, .int .i64 0, .int .i64 0, .int .i64 0] 210)) w.heap.size #[.bool false, .int .i64 n1, .int .i64 n2, .int .i64 hd, .int .i64 oc, .int .i64 t0, .int .i64 t1, .int .i64 t2, .int .i64 t3, .int .i64 t4, .int .i64 t5, .int .i64 t6, .int .i64 t7] 24 := (Blk.new w _ _).alloc _
    have hC1 : CkAt ((w.alloc (.cells #[.bool false, .int .i64 n1, .int .i64 n2, .int .i64 hd, .int .i64 oc, .int .i64 t0, .int .i64 t1, .int .i64 t2, .int .i64 t3, .int .i64 t4, .int .i64 t5, .int .i64 t6, .int .i64 t7] 24)).alloc (.cells #[.int .i64 0, .int .i64 0, .int .i64 0, .int .i64 0, .int .i64 0, .int .i64 0, .int .i64 0, .int .i64 0] 210)) (w.heap.size + 1) Ck.none := Blk.newAt (n := w.heap.size + 1) (by simp) _ _
    generalize ((w.alloc (.cells #[.bool false, .int .i64 n1, .int .i64 n2, .int .i64 hd, .int .i64 oc, .int .i64 t0, .int .i64 t1, .int .i64 t2, .int .i64 t3, .int .i64 t4, .int .i64 t5, .int .i64 t6, .int .i64 t7] 24)).alloc (.cells #[.int .i64 0, .int .i64 0, .int .i64 0, .int .i64 0, .int .i64 0, .int .i64 0, .int .i64 0, .int .i64 0] 210)) = W at hB1 hK1 hC1 ⊢
    obtain ⟨nw, hnw⟩ : ∃ nw, w.heap.size = nw := ⟨_, rfl⟩
    rw [hnw] at hK1 hC1 ⊢
    have HNW := Lib.hid hnw
    clear hnw
    have B0 := Lib.hid (bl_drew hB1)
    have K0 := Lib.hid hK1.drew
    have C0 := Lib.hid hC1.drew
    have k0c := K0.out.c
    clear hB1 hK1 hC1
    go_region_held3 (fun w' => ∀ i, w'.cell? ⟨nw, i, none⟩ = (#[.bool false, .int .i64 n1, .int .i64 n2, .int .i64 hd, .int .i64 oc, .int .i64 t0, .int .i64 t1, .int .i64 t2, .int .i64 t3, .int .i64 t4, .int .i64 t5, .int .i64 t6, .int .i64 t7] : Array Value)[i]?) (first | exact k0c | exact k3c | exact k4c | exact k5c | exact (Blk.alloc K5.out _).c | go_keep) (first
      | ((with_reducible refine (ANew_c ⟨false, n1, n2, hd, oc, t0, t1, t2, t3, t4, t5, t6, t7⟩ (nw + 1) _).mono ?_); rintro e w3 ⟨ba, rfl, la, A3, B3⟩; have HA3 := Lib.hid A3; have HB3 := Lib.hid B3; have Hla := Lib.hid la; have K3 := Lib.hid (K0.out.below B3); have k3c := (K0.out.below B3).c; clear A3 B3 la)
      | ((with_reducible refine (JNew_c ⟨false, n1, n2, hd, oc, t0, t1, t2, t3, t4, t5, t6, t7⟩ (nw + 1) _).mono ?_); rintro e w4 ⟨bj, rfl, lj, J4, B4⟩; have HJ4 := Lib.hid J4; have HB4 := Lib.hid B4; have Hlj := Lib.hid lj; have K4 := Lib.hid (K3.out.below B4); have k4c := (K3.out.below B4).c; clear J4 B4 lj)
      | ((with_reducible refine (WN.out _).mono ?_); rintro e w5 ⟨bw, bh, rfl, lw, lh, H5, Y5, B5⟩; have HH5 := Lib.hid H5; have HY5 := Lib.hid Y5; have HB5 := Lib.hid B5; have Hlw := Lib.hid lw; have Hlh := Lib.hid lh; have K5 := Lib.hid (K4.out.below B5); have k5c := (K4.out.below B5).c; clear H5 Y5 B5 lw lh))
    all_goals
      go_wp2
      go_ret
      exact new_end B0.out C0.out HA3.out HJ4.out HH5.out HY5.out Hla.out Hlj.out Hlw.out Hlh.out HB3.out HB4.out HB5.out (by have := HNW.out; omega) rfl rfl
  · have WN := Lib.hid (show ∀ w' : World, Calls Tryz.prog 115 #[(⟨true, n1, n2, hd, oc, t0, t1, t2, t3, t4, t5, t6, t7⟩ : Su).v] w' fun e w'' => ∃ b bh, e = .returned (.iface 237 (.pointer (some ⟨b, 0, none⟩))) ∧ w'.heap.size ≤ b ∧ w'.heap.size ≤ bh ∧ HoAt w'' bh (Ho.none hd oc) nil0 nil0 ∧ WyAt w'' b bh (.cy (Cy.zero n1 n2)) ∧ Below w'.heap.size w' w'' from WN.out)
    go_enter Tryz.func98, Tryz.ntmps98
    go_upto_region 2 with fail
    have hB1 : Below w.heap.size w ((w.alloc (.cells #[.bool true, .int .i64 n1, .int .i64 n2, .int .i64 hd, .int .i64 oc, .int .i64 t0, .int .i64 t1, .int .i64 t2, .int .i64 t3, .int .i64 t4, .int .i64 t5, .int .i64 t6, .int .i64 t7] 24)).alloc (.cells #[.int .i64 0, .int .i64 0, .int .i64 0, .int .i64 0, .int .i64 0, .int .i64 0, .int .i64 0, .int .i64 0] 210)) := bl_alloc (bl_alloc (bl_refl w) _) _
    have hK1 : Blk ((w.alloc (.cells #[.bool true, .int .i64 n1, .int .i64 n2, .int .i64 hd, .int .i64 oc, .int .i64 t0, .int .i64 t1, .int .i64 t2, .int .i64 t3, .int .i64 t4, .int .i64 t5, .int .i64 t6, .int .i64 t7] 24)).alloc (.cells #[.int .i64 0, .int .i64 0, .int .i64 0, .int .i64 0, .int .i64 0, .int .i64 0, .int .i64 0, .int .i64 0] 210)) w.heap.size #[.bool true, .int .i64 n1, .int .i64 n2, .int .i64 hd, .int .i64 oc, .int .i64 t0, .int .i64 t1, .int .i64 t2, .int .i64 t3, .int .i64 t4, .int .i64 t5, .int .i64 t6, .int .i64 t7] 24 := (Blk.new w _ _).alloc _
    have hC1 : CkAt ((w.alloc (.cells #[.bool true, .int .i64 n1, .int .i64 n2, .int .i64 hd, .int .i64 oc, .int .i64 t0, .int .i64 t1, .int .i64 t2, .int .i64 t3, .int .i64 t4, .int .i64 t5, .int .i64 t6, .int .i64 t7] 24)).alloc (.cells #[.int .i64 0, .int .i64 0, .int .i64 0, .int .i64 0, .int .i64 0, .int .i64 0, .int .i64 0, .int .i64 0] 210)) (w.heap.size + 1) Ck.none := Blk.newAt (n := w.heap.size + 1) (by simp) _ _
    generalize ((w.alloc (.cells #[.bool true, .int .i64 n1, .int .i64 n2, .int .i64 hd, .int .i64 oc, .int .i64 t0, .int .i64 t1, .int .i64 t2, .int .i64 t3, .int .i64 t4, .int .i64 t5, .int .i64 t6, .int .i64 t7] 24)).alloc (.cells #[.int .i64 0, .int .i64 0, .int .i64 0, .int .i64 0, .int .i64 0, .int .i64 0, .int .i64 0, .int .i64 0] 210)) = W at hB1 hK1 hC1 ⊢
    obtain ⟨nw, hnw⟩ : ∃ nw, w.heap.size = nw := ⟨_, rfl⟩
    rw [hnw] at hK1 hC1 ⊢
    have HNW := Lib.hid hnw
    clear hnw
    have B0 := Lib.hid (bl_drew hB1)
    have K0 := Lib.hid hK1.drew
    have C0 := Lib.hid hC1.drew
    have k0c := K0.out.c
    clear hB1 hK1 hC1
    go_region_held3 (fun w' => ∀ i, w'.cell? ⟨nw, i, none⟩ = (#[.bool true, .int .i64 n1, .int .i64 n2, .int .i64 hd, .int .i64 oc, .int .i64 t0, .int .i64 t1, .int .i64 t2, .int .i64 t3, .int .i64 t4, .int .i64 t5, .int .i64 t6, .int .i64 t7] : Array Value)[i]?) (first | exact k0c | exact k3c | exact k4c | exact k5c | exact (Blk.alloc K5.out _).c | go_keep) (first
      | ((with_reducible refine (ANew_c ⟨true, n1, n2, hd, oc, t0, t1, t2, t3, t4, t5, t6, t7⟩ (nw + 1) _).mono ?_); rintro e w3 ⟨ba, rfl, la, A3, B3⟩; have HA3 := Lib.hid A3; have HB3 := Lib.hid B3; have Hla := Lib.hid la; have K3 := Lib.hid (K0.out.below B3); have k3c := (K0.out.below B3).c; clear A3 B3 la)
      | ((with_reducible refine (JNew_c ⟨true, n1, n2, hd, oc, t0, t1, t2, t3, t4, t5, t6, t7⟩ (nw + 1) _).mono ?_); rintro e w4 ⟨bj, rfl, lj, J4, B4⟩; have HJ4 := Lib.hid J4; have HB4 := Lib.hid B4; have Hlj := Lib.hid lj; have K4 := Lib.hid (K3.out.below B4); have k4c := (K3.out.below B4).c; clear J4 B4 lj)
      | ((with_reducible refine (WN.out _).mono ?_); rintro e w5 ⟨bw, bh, rfl, lw, lh, H5, Y5, B5⟩; have HH5 := Lib.hid H5; have HY5 := Lib.hid Y5; have HB5 := Lib.hid B5; have Hlw := Lib.hid lw; have Hlh := Lib.hid lh; have K5 := Lib.hid (K4.out.below B5); have k5c := (K4.out.below B5).c; clear H5 Y5 B5 lw lh))
    all_goals
      go_wp2
      go_ret
      exact new_end B0.out C0.out HA3.out HJ4.out HH5.out HY5.out Hla.out Hlj.out Hlw.out Hlh.out HB3.out HB4.out HB5.out (by have := HNW.out; omega) rfl rfl
end Go.Proofs.YtcllbmjmefeknaaGreatK
