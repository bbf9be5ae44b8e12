/- The walk of PostBegins. -/
import Derived.Test.YtdffinnnjcgfcaaGreatPb1
namespace Go.Proofs.YtdffinnnjcgfcaaGreatK
open Go Go.RowKit
set_option linter.unusedVariables false
set_option maxHeartbeats 40000000
set_option maxRecDepth 100000
theorem PNewE_c (s : Su) (w : World) {f : Int} (hf : chkS s = f) (h0 : f ≠ 0) : Calls Tryz.prog 56 #[s.v] w fun e w' => e = .returned (.tuple #[.pointer none, .int .i64 f]) ∧ Below w.heap.size w w' := by
  have HC := Lib.hid (fun w => Check_c s w)
  rw [hf] at HC
  have k0 : (f == 0) = false := beq_eq_false_iff_ne.2 h0
  clear hf h0
  obtain ⟨cyc, n1, n2, hd, oc, t0, t1, t2, t3, t4, t5, t6, t7⟩ := s
  have B0 := Lib.hid (bl_alloc (bl_refl w) (.cells #[.bool cyc, .int .i64 n1, .int .i64 n2, .int .i64 hd, .int .i64 oc, .int .i64 t0, .int .i64 t1, .int .i64 t2, .int .i64 t3, .int .i64 t4, .int .i64 t5, .int .i64 t6, .int .i64 t7] 37))
  go_enter Tryz.func56, Tryz.ntmps56
  go_wp2_with (first
    | ((with_reducible refine (HC.out _).mono ?_); rintro e w2 ⟨rfl, b2⟩; have B2 := Lib.hid (bl_then B0.out b2); clear b2))
  go_ret2
  exact ⟨rfl, B2.out⟩
theorem PSetup_c {w : World} {b : Nat} {p : Po} {L : PoL} (h : PoAt w b p L) : Calls Tryz.prog 67 #[.pointer (some ⟨b, 0, none⟩)] w fun e w' => e = .returned p.s.v ∧ Below w.heap.size w w' := by
  obtain ⟨x, e, o, nx, gone, came, sent, got, s⟩ := p
  obtain ⟨cyc, n1, n2, hd, oc, t0, t1, t2, t3, t4, t5, t6, t7⟩ := s
  have B1 := bl_alloc (bl_refl w) (.cells #[.bool false, .int .i64 0, .int .i64 0, .int .i64 0, .int .i64 0, .int .i64 0, .int .i64 0, .int .i64 0, .int .i64 0, .int .i64 0, .int .i64 0, .int .i64 0, .int .i64 0] 37)
  have hc := (h.blk.below B1).c
  have hlt := h.blk.lt
  have hne : w.heap.size ≠ b := by omega
  clear h
  go_enter Tryz.func67, Tryz.ntmps67
  go_wp2
  exact bodyPost_ret (res_c rfl Su.laid rfl (Blk.new w _ _) rfl) rfl ⟨rfl, bl_alloc (bl_refl w) _⟩
theorem PState_c {w : World} {b : Nat} {p : Po} {L : PoL} (h : PoAt w b p L) : Calls Tryz.prog 68 #[.pointer (some ⟨b, 0, none⟩)] w fun e w' => e = .returned (.pointer (some ⟨L.bx, 0, none⟩)) ∧ w = w' := by
  have hc := h.blk.c
  clear h
  go_enter Tryz.func68, Tryz.ntmps68
  go_wp2
  go_ret
  exact ⟨rfl, rfl⟩
theorem PTold_c {w : World} {b : Nat} {p : Po} {L : PoL} (h : PoAt w b p L) : Calls Tryz.prog 66 #[.pointer (some ⟨b, 0, none⟩)] w fun e w' => e = .returned L.L.vt ∧ Tolds w' L.L.vt p.x.told ∧ PoTo w w' b { p with x := { p.x with told := [] } } L ∧ Chg [L.bx] w w' := by
  have H := Lib.hid h
  have HT := Lib.hid (Told_c h.lk)
  have hc := h.blk.c
  clear h
  go_enter Tryz.func66, Tryz.ntmps66
  go_wp2_with (first
    | ((with_reducible refine HT.out.mono ?_); rintro e w2 ⟨rfl, S2, T2, G2⟩))
  obtain ⟨at_, ct, e0, _⟩ := T2.shape
  rw [e0]
  go_ret
  rw [← e0]
  have hm : ∀ k ∈ [L.bx], k ∈ stF L.bx L.L := fun k hk => by
    obtain rfl : k = L.bx := by simpa using hk
    exact List.mem_cons_self ..
  exact ⟨rfl, T2, PoTo.byX H.out ⟨{ L.L with vt := nil0 }, S2, G2.more hm, fun k hk => .inl (by
    have z : k ∉ own nil0 := by simp [own, Value.ownBlock]
    simp only [stF, List.mem_append] at hk ⊢
    rcases hk with h1 | h1 | h1 | h1 | h1 | h1
    · exact .inl h1
    · exact .inr (.inl h1)
    · exact .inr (.inr (.inl h1))
    · exact .inr (.inr (.inr (.inl h1)))
    · exact .inr (.inr (.inr (.inr (.inl h1))))
    · exact absurd h1 z)⟩, G2⟩
theorem store13 {w : World} {b : Nat} {t : TypeId} {c0 c1 c2 c3 c4 c5 c6 c7 c8 c9 c10 c11 c12 : Value} (h : Blk w b #[c0, c1, c2, c3, c4, c5, c6, c7, c8, c9, c10, c11, c12] t) (v0 v1 v2 v3 v4 v5 v6 v7 v8 v9 v10 v11 v12 : Value) :
    Blk (((((((((((((w.setCell ⟨b, 0, none⟩ v0).setCell ⟨b, 1, none⟩ v1).setCell ⟨b, 2, none⟩ v2).setCell ⟨b, 3, none⟩ v3).setCell ⟨b, 4, none⟩ v4).setCell ⟨b, 5, none⟩ v5).setCell ⟨b, 6, none⟩ v6).setCell ⟨b, 7, none⟩ v7).setCell ⟨b, 8, none⟩ v8).setCell ⟨b, 9, none⟩ v9).setCell ⟨b, 10, none⟩ v10).setCell ⟨b, 11, none⟩ v11).setCell ⟨b, 12, none⟩ v12) b #[v0, v1, v2, v3, v4, v5, v6, v7, v8, v9, v10, v11, v12] t ∧ Chg [b] w (((((((((((((w.setCell ⟨b, 0, none⟩ v0).setCell ⟨b, 1, none⟩ v1).setCell ⟨b, 2, none⟩ v2).setCell ⟨b, 3, none⟩ v3).setCell ⟨b, 4, none⟩ v4).setCell ⟨b, 5, none⟩ v5).setCell ⟨b, 6, none⟩ v6).setCell ⟨b, 7, none⟩ v7).setCell ⟨b, 8, none⟩ v8).setCell ⟨b, 9, none⟩ v9).setCell ⟨b, 10, none⟩ v10).setCell ⟨b, 11, none⟩ v11).setCell ⟨b, 12, none⟩ v12) :=
  ⟨(((((((((((((h.set 0 v0).set 1 v1).set 2 v2).set 3 v3).set 4 v4).set 5 v5).set 6 v6).set 7 v7).set 8 v8).set 9 v9).set 10 v10).set 11 v11).set 12 v12).as (by simp), ((((((((((((((Chg.refl [b] w).set (.inl (by simp)) _).set (.inl (by simp)) _).set (.inl (by simp)) _).set (.inl (by simp)) _).set (.inl (by simp)) _).set (.inl (by simp)) _).set (.inl (by simp)) _).set (.inl (by simp)) _).set (.inl (by simp)) _).set (.inl (by simp)) _).set (.inl (by simp)) _).set (.inl (by simp)) _).set (.inl (by simp)) _)⟩
theorem PTold0_c {w : World} {b : Nat} {p : Po} {L : PoL} (h : PoAt w b p L) (h0 : p.x.told = []) (hs : p.sent = []) (hg : p.got = []) : Calls Tryz.prog 66 #[.pointer (some ⟨b, 0, none⟩)] w fun e w' => ∃ a c, e = .returned (.slice a 0 c) ∧ (∃ q L', PoAt w' b q L' ∧ q.sent = [] ∧ q.got = [] ∧ q.x.S = p.x.S ∧ L'.bx = L.bx) ∧ Chg [L.bx] w w' :=
  (PTold_c h).mono fun e w' ⟨he, T, ⟨L', A, hb, _⟩, G⟩ => by
    obtain ⟨a, c, e0, _⟩ := T.shape
    rw [h0] at e0
    exact ⟨a, c, by rw [he, e0]; rfl, ⟨_, L', A, hs, hg, rfl, hb⟩, G⟩
theorem PSent0_c {w : World} {b : Nat} {p : Po} {L : PoL} (h : PoAt w b p L) (hs : p.sent = []) : Calls Tryz.prog 60 #[.pointer (some ⟨b, 0, none⟩)] w fun e w' => ∃ a c, e = .returned (.slice a 0 c) ∧ w = w' :=
  (PSent_c h).mono fun e w' ⟨he, hw⟩ => by
    obtain ⟨a, c, e0, _⟩ := h.sn.shape
    rw [hs] at e0
    exact ⟨a, c, by rw [he, e0]; rfl, hw⟩
theorem PCame0_c {w : World} {b : Nat} {p : Po} {L : PoL} (h : PoAt w b p L) (hg : p.got = []) : Calls Tryz.prog 65 #[.pointer (some ⟨b, 0, none⟩)] w fun e w' => ∃ a c, e = .returned (.slice a 0 c) ∧ w = w' :=
  (PCame_c h).mono fun e w' ⟨he, hw⟩ => by
    obtain ⟨a, c, e0, _⟩ := h.gt.shape
    rw [hg] at e0
    exact ⟨a, c, by rw [he, e0]; rfl, hw⟩
theorem PoAt.cell0 {w : World} {b : Nat} {p : Po} {L : PoL} (h : PoAt w b p L) : w.cell? ⟨L.bx, 0, none⟩ = some (.int .u8 p.x.S) := h.lk.st.c 0
theorem one_bel {W w5 w8 : World} {bx : Nat} (B : Below W.heap.size W w5) (G : Chg [bx] w5 w8) (h : W.heap.size ≤ bx) : Below W.heap.size W w8 :=
  B.trans (G.to_below B.size (fun k hk => by
    obtain rfl : k = bx := by simpa using hk
    exact h))
theorem usual_wf (cyc : Bool) : (usualP cyc).wf := by cases cyc <;> exact ⟨rfl, rfl, rfl, rfl, rfl, rfl, rfl, rfl, rfl, rfl, rfl, rfl⟩
theorem PostBegins_w (s : Su) (near : Bool) (k : Int) (vo : Value) (o : Oct) (W : World) (hw : s.wf) (_c1 : 0 ≤ k ∧ k ≤ 255) (h1 : BytI W [] vo o) (_l1 : o.length ≤ maxLen) :
    Calls Tryz.prog 23 #[s.v, .bool near, .agg #[.int .u8 k, vo]] W fun e W' => e = .returned (.bool true) ∧ Below W.heap.size W W' := by
  obtain ⟨ao, co, rfl, hco⟩ := h1.shape
  obtain ⟨n, hn⟩ : ∃ n, o.length = n := ⟨_, rfl⟩
  rw [hn] at hco ⊢
  clear h1 _l1 _c1 hn
  have AW2 := Lib.hid (fun w => PAwake_c w)
  have HW := Lib.hid hw
  clear hw
  obtain ⟨cyc, n1, n2, hd, oc, t0, t1, t2, t3, t4, t5, t6, t7⟩ := s
  have AW := Lib.hid (fun w => PAwake_c w)
  go_enter Tryz.func23, Tryz.ntmps23
  go_upto_region 1 with fail
  have B0 := Lib.hid (bl_alloc (bl_alloc (bl_refl W) (.cells #[.bool cyc, .int .i64 n1, .int .i64 n2, .int .i64 hd, .int .i64 oc, .int .i64 t0, .int .i64 t1, .int .i64 t2, .int .i64 t3, .int .i64 t4, .int .i64 t5, .int .i64 t6, .int .i64 t7] 37)) (.cells #[.int .u8 k, .slice ao n co] 29))
  have K0 := Blk.below (Blk.new W #[.bool cyc, .int .i64 n1, .int .i64 n2, .int .i64 hd, .int .i64 oc, .int .i64 t0, .int .i64 t1, .int .i64 t2, .int .i64 t3, .int .i64 t4, .int .i64 t5, .int .i64 t6, .int .i64 t7] 37) (bl_alloc (bl_refl _) (.cells #[.int .u8 k, .slice ao n co] 29))
  have O0 : Blk ((W.alloc (.cells #[.bool cyc, .int .i64 n1, .int .i64 n2, .int .i64 hd, .int .i64 oc, .int .i64 t0, .int .i64 t1, .int .i64 t2, .int .i64 t3, .int .i64 t4, .int .i64 t5, .int .i64 t6, .int .i64 t7] 37)).alloc (.cells #[.int .u8 k, .slice ao n co] 29)) (W.heap.size + 1) #[.int .u8 k, .slice ao n co] 29 := Blk.newAt (by simp) _ _
  change Code.wp _ _ _ _ ((W.alloc (.cells #[.bool cyc, .int .i64 n1, .int .i64 n2, .int .i64 hd, .int .i64 oc, .int .i64 t0, .int .i64 t1, .int .i64 t2, .int .i64 t3, .int .i64 t4, .int .i64 t5, .int .i64 t6, .int .i64 t7] 37)).alloc (.cells #[.int .u8 k, .slice ao n co] 29))
  generalize ((W.alloc (.cells #[.bool cyc, .int .i64 n1, .int .i64 n2, .int .i64 hd, .int .i64 oc, .int .i64 t0, .int .i64 t1, .int .i64 t2, .int .i64 t3, .int .i64 t4, .int .i64 t5, .int .i64 t6, .int .i64 t7] 37)).alloc (.cells #[.int .u8 k, .slice ao n co] 29)) = w1 at B0 K0 O0 ⊢
  obtain ⟨go, hgo⟩ : ∃ g, W.heap.size + 1 = g := ⟨_, rfl⟩
  obtain ⟨gs, hgs⟩ : ∃ g, W.heap.size = g := ⟨_, rfl⟩
  have HGS := Lib.hid hgs
  have HGO := Lib.hid hgo
  rw [hgo] at O0
  rw [hgs] at K0
  have hgne : gs ≠ go := by omega
  rw [hgo, hgs]
  clear hgo hgs
  have HK0 := Lib.hid K0
  have HO0 := Lib.hid O0
  by_cases hx : 100 < n
  · have hx' : (100 : Int) < n := by omega
    go_wp2_with (first
      | ((with_reducible refine (AW.out _).mono ?_); rintro e w2 ⟨rfl, b2⟩; have B2 := Lib.hid (bl_then B0.out b2); have o2c := (HO0.out.below b2).c; clear b2 K0 O0)
      | ((with_reducible refine (AW2.out _).mono ?_); rintro e w3 ⟨rfl, b3⟩; have B3 := Lib.hid (bl_then B2.out b3); clear b3))
    go_ret
    exact ⟨rfl, B3.out⟩
  have hx' : ¬ (100 : Int) < n := by omega
  go_upto_if 21 with (first
      | ((with_reducible refine (AW.out _).mono ?_); rintro e w2 ⟨rfl, b2⟩; have B2 := Lib.hid (bl_then B0.out b2); have o2c := (HO0.out.below b2).c; have K2 := Lib.hid (HK0.out.below b2); have O2 := Lib.hid (HO0.out.below b2); clear b2 K0 O0))
  clear o2c
  have HU := Lib.hid (fun w => Usual_c cyc w)
  go_cut [] (fun wx => ∃ s' : Su, s'.wf ∧ Blk wx gs s'.v.cells 37 ∧ Blk wx go #[.int .u8 k, .slice ao n co] 29 ∧ Below W.heap.size W wx)
  case first =>
    cases near with
    | true =>
      have k2c := K2.out.c
      go_wp2_with (first
        | ((with_reducible refine (HU.out _).mono ?_); rintro e w3 ⟨rfl, b3⟩; have B3 := Lib.hid (bl_then B2.out b3); have K3 := Lib.hid (K2.out.below b3); have k3c := K3.out.c; have k3f := K3.out.f; have O3 := Lib.hid (O2.out.below b3); clear b3))
      go_meet
      case rel =>
        obtain ⟨S1, S2⟩ := store13 K3.out (.bool cyc) (.int .i64 8) (.int .i64 300) (.int .i64 16) (.int .i64 600) (.int .i64 600) (.int .i64 12000) (.int .i64 8000) (.int .i64 4000) (.int .i64 1200) (.int .i64 100) (.int .i64 4000) (.int .i64 6000)
        exact ⟨usualP cyc, usual_wf cyc, S1, O3.out.chg S2 (by simpa using Ne.symm hgne), B3.out.trans (S2.to_below B3.out.size (fun k hk => by
          obtain rfl : k = gs := by simpa using hk
          exact Nat.le_of_eq HGS.out))⟩
    | false =>
      go_wp2
      go_meet
      case rel => exact ⟨_, HW.out, K2.out, O2.out, B2.out⟩
  case rest =>
    obtain ⟨s', hw', K, O, B⟩ := hcut
    obtain ⟨f, hf⟩ : ∃ f, chkS s' = f := ⟨_, rfl⟩
    have HCK := Lib.hid (fun w => Check_c s' w)
    rw [hf] at HCK
    have HK := Lib.hid K
    have HO := Lib.hid O
    have HB := Lib.hid B
    have HW' := Lib.hid hw'
    have kc := K.c
    clear K O B HO0 HK0 HW hw' K2 O2
    by_cases h0 : f = 0
    · subst h0
      have HNE := Lib.hid (fun w => PNew_c s' w (fun w => (Check_c s' w).mono fun e w' ⟨he, hb⟩ => ⟨by rw [he, hf], hb⟩))
      clear hf
      have hS : (Po.new s').x.S = 0 := rfl
      have hT : (Po.new s').x.told = [] := rfl
      have hs1 : (Po.new s').sent = [] := rfl
      have hg1 : (Po.new s').got = [] := rfl
      have hss : (Po.new s').s = s' := rfl
      have HSG := Lib.hid (And.intro hs1 hg1)
      have HTT := Lib.hid hT
      obtain ⟨p, hp⟩ : ∃ p, Po.new s' = p := ⟨_, rfl⟩
      rw [hp] at HNE hS HSG HTT hss
      have HS := Lib.hid hS
      have HSS := Lib.hid hss
      clear hp hS hT hs1 hg1 hss
      obtain ⟨cyc, n1, n2, hd, oc, t0, t1, t2, t3, t4, t5, t6, t7⟩ := s'
      have te := times_equal t0 t1 t2 t3 t4 t5 t6 t7 HW'.out.t0 HW'.out.t1 HW'.out.t2 HW'.out.t3 HW'.out.t4 HW'.out.t5 HW'.out.t6 HW'.out.t7
      go_upto_region 9 with (first
        | ((with_reducible refine (HNE.out _).mono ?_); rintro e w3 ⟨b, rfl, L, P3, b3, hL3⟩; have HBX := Lib.hid (hL3 _ (mem6.2 (.inr (.inl (List.mem_cons_self ..))))); clear hL3; have B3 := Lib.hid (bl_then HB.out b3); have K3 := Lib.hid (HK.out.below b3); have k3c := K3.out.c; have O3 := Lib.hid (HO.out.below b3); have HP3 := Lib.hid P3; clear b3 P3)
        | ((with_reducible refine (HCK.out _).mono ?_); rintro e w4 ⟨rfl, b4⟩; have B4 := Lib.hid (bl_then B3.out b4); have O4 := Lib.hid (O3.out.below b4); have K4 := Lib.hid (K3.out.below b4); have P4 := Lib.hid (HP3.out.below b4); clear b4))
      clear k3c kc
      have hbx : gs ≠ L.bx := by have := HBX.out; have := HK.out.lt; omega
      have hbo : go ≠ L.bx := by have := HBX.out; have := HO.out.lt; omega
      have HBL := Lib.hid (Nat.le_trans HB.out.size HBX.out)
      have BD := Lib.hid (bl_drew B4.out)
      have KD := Lib.hid K4.out.drew
      have OD := Lib.hid O4.out.drew
      have PD := Lib.hid (P4.out.below (bl_drew (bl_refl w4)))
      have HSU := Lib.hid (show Calls Tryz.prog 67 #[.pointer (some ⟨b, 0, none⟩)] w4.drew fun e w' => e = .returned (.agg #[.bool cyc, .int .i64 n1, .int .i64 n2, .int .i64 hd, .int .i64 oc, .int .i64 t0, .int .i64 t1, .int .i64 t2, .int .i64 t3, .int .i64 t4, .int .i64 t5, .int .i64 t6, .int .i64 t7]) ∧ Below w4.drew.heap.size w4.drew w' from (PSetup_c PD.out).mono fun e w' ⟨he, hb⟩ => ⟨by rw [he, HSS.out], hb⟩)
      have kdc := KD.out.c
      have sd := PD.out.cell0
      rw [HS.out] at sd
      clear B4 K4 P4 O4 B3 K3 O3 HP3
      obtain ⟨gx, hgx⟩ : ∃ g, L.bx = g := ⟨_, rfl⟩
      have HGX := Lib.hid hgx
      rw [hgx] at sd hbx hbo
      clear hgx
      go_region_held (fun w' => (∀ i, w'.cell? ⟨gs, i, none⟩ = (#[.bool cyc, .int .i64 n1, .int .i64 n2, .int .i64 hd, .int .i64 oc, .int .i64 t0, .int .i64 t1, .int .i64 t2, .int .i64 t3, .int .i64 t4, .int .i64 t5, .int .i64 t6, .int .i64 t7] : Array Value)[i]?) ∧ w'.cell? ⟨gx, 0, none⟩ = some (.int .u8 0)) (first | exact ⟨kdc, sd⟩ | exact ⟨k5c, s5⟩ | exact ⟨k8c, s8⟩ | go_keep) (first
        | ((with_reducible refine HSU.out.mono ?_); rintro e w5 ⟨rfl, b5⟩; have B5 := Lib.hid (bl_then BD.out b5); have K5 := Lib.hid (KD.out.below b5); have O5 := Lib.hid (OD.out.below b5); have P5 := Lib.hid (PD.out.below b5); have k5c := K5.out.c; have s5 := HGX.out ▸ HS.out ▸ P5.out.cell0; have HST := Lib.hid (HGX.out ▸ PState_c P5.out); clear b5)
        | ((with_reducible refine HST.out.mono ?_); rintro e w6 ⟨rfl, rfl⟩; have HTO := Lib.hid (PTold0_c P5.out HTT.out HSG.out.1 HSG.out.2))
        | ((with_reducible refine HTO.out.mono ?_); rintro e w8 ⟨a8, c8, rfl, ⟨q, L8, P8, q1, q2, q3, q4⟩, G8⟩; have B8 := Lib.hid (one_bel B5.out G8 HBL.out); have K8 := Lib.hid (K5.out.chg G8 (by simpa [HGX.out] using hbx)); have O8 := Lib.hid (O5.out.chg G8 (by simpa [HGX.out] using hbo)); have k8c := K8.out.c; have s8 := HGX.out ▸ q4 ▸ HS.out ▸ q3 ▸ P8.cell0; have HSE := Lib.hid (PSent0_c P8 q1); have HCA := Lib.hid (PCame0_c P8 q2); clear P8 G8 q1 q2 q3 q4)
        | ((with_reducible refine HSE.out.mono ?_); rintro e w9 ⟨a9, c9, rfl, rfl⟩)
        | ((with_reducible refine HCA.out.mono ?_); rintro e w10 ⟨a10, c10, rfl, rfl⟩))
      all_goals
        have BE := B8
        have OE := O8
        have NT := Lib.hid (fun w => NTick_c w true false false false false false false false)
        have NO := Lib.hid (fun w => NOrder_c w k ao n co)
        have N1 := Lib.hid (fun w => NTold_c w)
        have N2 := Lib.hid (fun w => NSent_c w)
        have N3 := Lib.hid (fun w => NCame_c w)
        have N4 := Lib.hid (fun w => NState_c w)
        have N5 := Lib.hid (fun w => NSetup_c w)
        have ne0 := times_equal 0 0 0 0 0 0 0 0 rfl rfl rfl rfl rfl rfl rfl rfl
        go_upto_region 13 with (first
          | ((with_reducible refine (NT.out _).mono ?_); rintro e w5 ⟨rfl, b5⟩; have B5 := Lib.hid (bl_then BE.out b5); have O5 := Lib.hid (OE.out.below b5); clear b5))
        have o5c := (Blk.below O5.out (bl_alloc (bl_refl _) (.cells #[.bool false, .bool false, .bool false, .bool false, .bool false, .bool false, .bool false, .bool false] 98))).c
        have B6 := Lib.hid (bl_then B5.out (bl_alloc (bl_refl _) (.cells #[.bool false, .bool false, .bool false, .bool false, .bool false, .bool false, .bool false, .bool false] 98)))
        go_wp2_with (first
          | ((with_reducible refine (NO.out _).mono ?_); rintro e w7 ⟨rfl, b7⟩; have B7 := Lib.hid (bl_then B6.out b7); clear b7)
          | ((with_reducible refine (N1.out _).mono ?_); rintro e w8 ⟨rfl, rfl⟩)
          | ((with_reducible refine (N2.out _).mono ?_); rintro e w9 ⟨rfl, rfl⟩)
          | ((with_reducible refine (N3.out _).mono ?_); rintro e w10 ⟨rfl, rfl⟩)
          | ((with_reducible refine (N4.out _).mono ?_); rintro e w11 ⟨rfl, rfl⟩)
          | ((with_reducible refine (N5.out _).mono ?_); rintro e w12 ⟨rfl, b12⟩; have B12 := Lib.hid (bl_then B7.out b12); clear b12))
        go_ret
        exact ⟨rfl, B12.out⟩
    · have HNE := Lib.hid (fun w => PNewE_c s' w hf h0)
      have k0 : (f == 0) = false := beq_eq_false_iff_ne.2 h0
      clear hf h0
      obtain ⟨cyc, n1, n2, hd, oc, t0, t1, t2, t3, t4, t5, t6, t7⟩ := s'
      go_upto_region 9 with (first
        | ((with_reducible refine (HNE.out _).mono ?_); rintro e w3 ⟨rfl, b3⟩; have B3 := Lib.hid (bl_then HB.out b3); have K3 := Lib.hid (HK.out.below b3); have k3c := K3.out.c; have O3 := Lib.hid (HO.out.below b3); clear b3)
        | ((with_reducible refine (HCK.out _).mono ?_); rintro e w4 ⟨rfl, b4⟩; have B4 := Lib.hid (bl_then B3.out b4); have O4 := Lib.hid (O3.out.below b4); clear b4))
      have BE0 := B4
      have OE0 := O4
      clear k3c K3
      have NT := Lib.hid (fun w => NTick_c w true false false false false false false false)
      have NO := Lib.hid (fun w => NOrder_c w k ao n co)
      have N1 := Lib.hid (fun w => NTold_c w)
      have N2 := Lib.hid (fun w => NSent_c w)
      have N3 := Lib.hid (fun w => NCame_c w)
      have N4 := Lib.hid (fun w => NState_c w)
      have N5 := Lib.hid (fun w => NSetup_c w)
      have ne0 := times_equal 0 0 0 0 0 0 0 0 rfl rfl rfl rfl rfl rfl rfl rfl
      refine wp_region_up (by kernel_rfl) (by kernel_rfl) ?_
      repeat (go_big_quiet_step (fail))
      refine wpQuiet_nil ?_
      refine up_elim (fun w6 hb_w6 => ?_)
      have BE := Lib.hid (bl_then BE0.out hb_w6)
      have OE := Lib.hid (OE0.out.below hb_w6)
      go_upto_region 13 with (first
        | ((with_reducible refine (NT.out _).mono ?_); rintro e w5 ⟨rfl, b5⟩; have B5 := Lib.hid (bl_then BE.out b5); have O5 := Lib.hid (OE.out.below b5); clear b5))
      have o5c := (Blk.below O5.out (bl_alloc (bl_refl _) (.cells #[.bool false, .bool false, .bool false, .bool false, .bool false, .bool false, .bool false, .bool false] 98))).c
      have B6 := Lib.hid (bl_then B5.out (bl_alloc (bl_refl _) (.cells #[.bool false, .bool false, .bool false, .bool false, .bool false, .bool false, .bool false, .bool false] 98)))
      go_wp2_with (first
        | ((with_reducible refine (NO.out _).mono ?_); rintro e w7 ⟨rfl, b7⟩; have B7 := Lib.hid (bl_then B6.out b7); clear b7)
        | ((with_reducible refine (N1.out _).mono ?_); rintro e w8 ⟨rfl, rfl⟩)
        | ((with_reducible refine (N2.out _).mono ?_); rintro e w9 ⟨rfl, rfl⟩)
        | ((with_reducible refine (N3.out _).mono ?_); rintro e w10 ⟨rfl, rfl⟩)
        | ((with_reducible refine (N4.out _).mono ?_); rintro e w11 ⟨rfl, rfl⟩)
        | ((with_reducible refine (N5.out _).mono ?_); rintro e w12 ⟨rfl, b12⟩; have B12 := Lib.hid (bl_then B7.out b12); clear b12))
      go_ret
      exact ⟨rfl, B12.out⟩
end Go.Proofs.YtdffinnnjcgfcaaGreatK
