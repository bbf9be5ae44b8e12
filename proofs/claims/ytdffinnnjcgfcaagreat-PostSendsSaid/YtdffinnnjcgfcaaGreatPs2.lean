/- The walk of PostSends. -/
import Derived.Test.YtdffinnnjcgfcaaGreatPs1
namespace Go.Proofs.YtdffinnnjcgfcaaGreatK
open Go Go.RowKit
set_option linter.unusedVariables false
set_option maxHeartbeats 40000000
set_option maxRecDepth 100000
/-- What a law holds behind so many ticks. -/
structure PoM (p : Po) (m : Nat) (t : List Bool) (S : List (Oct × Int)) : Prop where
  ok : p.ok m
  str : p.str t S
  mute : p.mute
  lk : ∀ q ∈ S, LK q.1
theorem PoM.start {p : Po} {m : Nat} {t : List Bool} {S : List (Oct × Int)} (h : PoM p m t S) : PoM { p with x := (p.x.order 1 []).1 } (m + 1) t S := by
  have h9 := h.ok.le (m := m + 1) (by omega)
  exact ⟨⟨St.ok_order h.ok.x 1 [], (St.few_order h.ok.few 1 []).le (by omega), h9.e, h9.gone, h9.came, h9.out, h9.sent, h9.got⟩, ⟨h.str.gone, h.str.ear, h.str.now⟩, Po.mute_order h.mute [], h.lk⟩
theorem PoM.tick {p : Po} {m : Nat} {t : List Bool} {S : List (Oct × Int)} (h : PoM p m t S) (ho : ([false, false, false, false, false, false, false, false].foldl Po.inB p.first).x.h.oct) :
    PoM (p.tick [false, false, false, false, false, false, false, false]).1 (m + 64) (t ++ (p.tick [false, false, false, false, false, false, false, false]).2) (S ++ (p.tick [false, false, false, false, false, false, false, false]).1.sent) := by
  have hm := Po.mute_tick h.mute
  refine ⟨Po.ok_tick h.ok _ rfl ho, Po.str_tick h.str h.ok _ ho, hm, fun q hq => ?_⟩
  rcases List.mem_append.1 hq with hq | hq
  · exact h.lk q hq
  · exact hm.sent q hq
abbrev law3 (a b c : Value) : List Nat := own a ++ (own b ++ own c)
theorem mem3 {k : Nat} {a b c : Value} : k ∈ law3 a b c ↔ k ∈ own a ∨ k ∈ own b ∨ k ∈ own c := by simp [law3]
/-- All that the law holds in memory. -/
structure LawS (w0 w : World) (vt vl ve : Value) (t : List Bool) (S : List (Oct × Int)) : Prop where
  t : Acc w0 w vt t
  l : AccL w0 w vl (S.map (·.1))
  e : AccI w0 w ve (S.map (·.2))
theorem LawS.far {w0 w w' : World} {vt vl ve : Value} {t : List Bool} {S : List (Oct × Int)} (h : LawS w0 w vt vl ve t S) (F : Far w0 w w' (law3 vt vl ve)) : LawS w0 w' vt vl ve t S := by
  obtain ⟨F, G, hA, h0, T⟩ := F
  exact ⟨h.t.chg G h0 (fun g hg => hA g (mem3.2 (.inl hg))), h.l.chg G h0 (fun g hg => hA g (mem3.2 (.inr (.inl hg)))) (T.off (by decide)), h.e.chg G h0 (fun g hg => hA g (mem3.2 (.inr (.inr hg))))⟩
theorem LawS.below {w0 w w' : World} {vt vl ve : Value} {t : List Bool} {S : List (Oct × Int)} (h : LawS w0 w vt vl ve t S) (b : Below w.heap.size w w') : LawS w0 w' vt vl ve t S := ⟨h.t.below b, h.l.below b, h.e.below b⟩
theorem LawS.lt {w0 w : World} {vt vl ve : Value} {t : List Bool} {S : List (Oct × Int)} (h : LawS w0 w vt vl ve t S) : ∀ g ∈ law3 vt vl ve, g < w.heap.size := fun g hg => by
  rcases mem3.1 hg with hg | hg | hg
  · exact Row.lt h.t.bits g hg
  · obtain ⟨cs, t, h1, _⟩ := h.l.typed g hg; exact h1.lt
  · obtain ⟨cs, t, h1, _⟩ := h.e.typed g hg; exact h1.lt
theorem LawS.byT {w0 w w' : World} {vt vt' vl ve : Value} {t t' : List Bool} {S : List (Oct × Int)} (h : LawS w0 w vt vl ve t S) (R : BitV w' vt' t') (C : Chg (own vt) w w') (O : ∀ b ∈ own vt', b ∈ own vt ∨ w.heap.size ≤ b) : LawS w0 w' vt' vl ve t' S :=
  ⟨h.t.grow R C O, h.l.chg C h.t.own (h.l.typed.disj h.t.typed (by decide)) (h.t.typed.off (by decide)), h.e.chg C h.t.own (h.e.typed.disj h.t.typed (by decide))⟩
theorem PostSends_w (cyc : Bool) (tk st : Int) (W : World) (k0 : 0 ≤ tk) (k1 : tk ≤ 65535) (s0 : 0 ≤ st) (s1 : st ≤ 255) :
    Calls Tryz.prog 20 #[.bool cyc, .int .u16 tk, .int .u8 st] W fun e W' => e = .returned (.bool true) ∧ Below W.heap.size W W' := by
  have AW := Lib.hid (PAwake_c W)
  have HU := Lib.hid (fun w => Usual_c cyc w)
  have HNW := Lib.hid (fun w => PNewU_c cyc w)
  obtain ⟨n, hn⟩ : ∃ n : Nat, tk.tmod 600 = n := ⟨(tk.tmod 600).toNat, by rw [Int.tmod_eq_emod_of_nonneg k0]; omega⟩
  have hn6 : n ≤ 600 := by rw [Int.tmod_eq_emod_of_nonneg k0] at hn; omega
  go_enter Tryz.func20, Tryz.ntmps20
  go_wp2_with (first
    | ((with_reducible refine AW.out.mono ?_); rintro e w2 ⟨rfl, b2⟩; have B2 := Lib.hid b2; clear b2)
    | ((with_reducible refine (HU.out _).mono ?_); rintro e w3 ⟨rfl, b3⟩; have B3 := Lib.hid (bl_then B2.out b3); clear b3)
    | ((with_reducible refine (HNW.out _).mono ?_); rintro e w4 ⟨b, rfl, P4, b4⟩; have HP4 := Lib.hid P4; have HB4 := Lib.hid b4; have B4 := Lib.hid (bl_then B3.out b4); clear P4 b4))
  go_loopw [9, 10, 11, 12] (fun o l en i wr => ∃ (k : Nat) (p : Po) (t : List Bool) (S : List (Oct × Int)), k ≤ n ∧ i = .int .i64 k ∧ t.length = 8 * k ∧ PoM p (65 * k) t S ∧ LawS w3 wr o l en t S ∧ PoW w3 wr b p (law3 o l en)) (fun _ _ _ i _ => n - (intOf i).toNat)
  case atStart => exact ⟨0, _, [], [], by omega, rfl, rfl, ⟨newU_ok cyc, Po.str_new _, Po.mute_new _, by simp⟩, ⟨⟨HB4.out, BitV.nil _, by simp [own, Value.ownBlock]⟩, AccL.nil HB4.out, AccI.nil HB4.out⟩, HP4.out⟩
  case round =>
    obtain ⟨k, p, t, S, hk, rfl, htl, R, A, P⟩ := hrel
    by_cases hlt : k < n
    · have hlt' : (k : Int) < n := by omega
      have HR := Lib.hid R
      have HA := Lib.hid A
      have HP := Lib.hid P
      have HTL := Lib.hid htl
      have BW := Lib.hid (bl_then B3.out A.t.bel)
      clear R A P htl
      go_upto_if 39 with fail
      go_cut [] (fun wx => ∃ p', PoM p' (65 * k + 1) t S ∧ LawS w3 wx u9 u10 u11 t S ∧ PoW w3 wx b p' (law3 u9 u10 u11))
      case first =>
        by_cases hky : (k : Int) = st
        · have HO := Lib.hid (HP.out.order (A := law3 u9 u10 u11) HA.out.t.bel.size HA.out.lt HR.out.ok.x (HR.out.ok.few.le (by omega)) 1 (byt_nil (w := wr)).i0 (by simp))
          have ck : ((k : Int) == st) = true := by simpa using hky
          clear hky
          go_wp2_with (first
            | ((with_reducible refine HO.out.mono ?_); rintro e w6 ⟨rfl, P6, F6⟩; have HP6 := Lib.hid P6; have HF6 := Lib.hid F6; clear P6 F6))
          go_meet
          case rel => exact ⟨_, HR.out.start, HA.out.far HF6.out, HP6.out⟩
        · have ck : ((k : Int) == st) = false := by simpa using hky
          go_wp2
          go_meet
          case rel => exact ⟨p, ⟨HR.out.ok.le (by omega), HR.out.str, HR.out.mute, HR.out.lk⟩, HA.out, HP.out⟩
      case rest =>
        obtain ⟨q, R1, A1, P1⟩ := hcut
        have HR1 := Lib.hid R1
        have HA1 := Lib.hid A1
        have HT := Lib.hid (P1.tick A1.t.bel.size A1.lt R1.ok (by omega) false false false false false false false false)
        clear R1 A1 P1
        go_upto_region 13 with (first
          | ((with_reducible refine HT.out.mono ?_); rintro e w9 ⟨⟨d0, d1, d2, d3, d4, d5, d6, d7, hd, rfl⟩, P9, F9, ho⟩; have HD := Lib.hid hd; have HP9 := Lib.hid P9; have HO := Lib.hid ho; have A9 := Lib.hid (HA1.out.far F9); clear hd P9 F9 ho))
        have B10 := bl_alloc (bl_refl w9) (.cells ([d0, d1, d2, d3, d4, d5, d6, d7].map Value.bool).toArray 98)
        have A10 := Lib.hid (A9.out.below B10)
        have P10 := Lib.hid (HP9.out.below B10)
        have N10h := Lib.hid (Blk.new w9 ([d0, d1, d2, d3, d4, d5, d6, d7].map Value.bool).toArray 98)
        have htl9 : t.length + 8 ≤ 1000000 := by have := HTL.out; omega
        clear B10
        go_upto_region 15 with (first
          | (at_builtin; refine wpList_bitsA _ rfl (.tmp 46) (.tmp 47) 67 rfl Tryz.underlying67 _ t [d0, d1, d2, d3, d4, d5, d6, d7] rfl w9.heap.size 8 8 98 rfl A10.out.t.bits N10h.out rfl (by omega) htl9 ?_; intro v11 w11 R11 C11 O11; have A11 := Lib.hid (A10.out.byT R11 C11 O11); have P11 := Lib.hid (P10.out.far (A' := law3 v11 u10 u11) C11 (fun k hk => .inl (mem3.2 (.inl hk))) (off_bool A10.out.t.bits) (fun g hg => by
              rcases mem3.1 hg with hg | hg | hg
              · exact (O11 g hg).imp (fun h => mem3.2 (.inl h)) id
              · exact .inl (mem3.2 (.inr (.inl hg)))
              · exact .inl (mem3.2 (.inr (.inr hg))))); have HS := Lib.hid (P11.out.sent); clear R11 C11 O11)
          | ((with_reducible refine HS.out.mono ?_); rintro e w12 ⟨vs, rfl, P12, rfl⟩; have HP12 := Lib.hid P12; (obtain ⟨asn, csn, es, _⟩ := P12.sents.shape); clear P12))
        have HTK := Lib.hid (HR1.out.tick HO.out)
        obtain ⟨p', hp'⟩ : ∃ p', (q.tick [false, false, false, false, false, false, false, false]).1 = p' := ⟨_, rfl⟩
        rw [HD.out, hp'] at HTK
        rw [hp'] at HP12 es ⊢
        rw [es] at HP12
        obtain ⟨sn, hsn⟩ : ∃ sn, p'.sent = sn := ⟨_, rfl⟩
        obtain ⟨ns, hns⟩ : ∃ ns, sn.length = ns := ⟨_, rfl⟩
        rw [hsn, hns] at HP12 ⊢
        rw [hsn] at HTK
        have HSN := Lib.hid hsn
        have HNS := Lib.hid hns
        have hsl := HTK.out.ok.sent
        rw [hsn, hns] at hsl
        have hgs := HTK.out.str.gone
        have HSS := Lib.hid (show S.length ≤ 500000 from by
          have h1 := HR1.out.str.ear
          have h2 := Er.evs_len t erz 0
          rw [h1] at h2
          have h3 := HTL.out
          simp [sentEv] at h2
          omega)
        clear es hp' hsn hns HD HO HT HP9 A9 A10 P10 N10h P11 HS hgs
        go_wp2
        go_loopw [10, 11, 15] (fun l en i wx => ∃ j : Nat, j ≤ ns ∧ i = .int .i64 j ∧ LawS w3 wx v11 l en (t ++ [d0, d1, d2, d3, d4, d5, d6, d7]) (S ++ sn.take j) ∧ PoS w3 wx b p' (law3 v11 l en) (.slice asn ns csn)) (fun _ _ i _ => ns - (intOf i).toNat)
        case atStart => exact ⟨0, by omega, rfl, by simpa using A11.out, HP12.out⟩
        case round =>
          obtain ⟨j, hj, rfl, A, P⟩ := hrel
          have HA := Lib.hid A
          have HPS := Lib.hid P
          by_cases hjn : j < ns
          · have hjn' : (j : Int) < ns := by omega
            obtain ⟨d, hd⟩ : ∃ d, sn[j]? = some d := ⟨_, List.getElem?_eq_getElem (by rw [HNS.out]; exact hjn)⟩
            have hse := P.sents
            rw [HSN.out] at hse
            obtain ⟨bl, off, u, rfl, c0, c1, yb⟩ := hse.at j d hd
            obtain ⟨au, cu, rfl, _⟩ := yb.1.shape
            have hdd := hd
            have HDD := Lib.hid hd
            have BA := bl_alloc (bl_refl wr) (.cells #[.slice au d.1.length cu] 27)
            have LA := Lib.hid (A.below BA)
            have PA := Lib.hid (P.below BA)
            have YA := Lib.hid (Byt.below yb BA)
            have lla : ((S ++ sn.take j).map (·.1)).length ≤ 1000000 := by
              have h9 := HSS.out
              have : (sn.take j).length ≤ ns := by rw [List.length_take, HNS.out]; omega
              simp only [List.length_map, List.length_append]
              omega
            have lle : ((S ++ sn.take j).map (·.2)).length ≤ 1000000 := by simpa using lla
            clear A P hse yb BA hd hdd
            go_wp2_with (first
              | (at_builtin; refine wpList_oct _ rfl (.tmp 57) (.tmp 63) 81 rfl Tryz.underlying81 rfl LA.out.l wr.heap.size _ d.1 rfl (Blk.new _ _ _) YA.out lla ?_; intro v6 w6 R6 C6 O6; have L6 := Lib.hid R6; have T6 := Lib.hid (LA.out.t.chg C6 LA.out.l.own (LA.out.t.typed.disj LA.out.l.typed (by decide))); have E6 := Lib.hid (LA.out.e.chg C6 LA.out.l.own (LA.out.e.typed.disj LA.out.l.typed (by decide))); have P6 := Lib.hid (PA.out.far (A' := law3 v11 v6 _) C6 (fun k hk => .inl (mem3.2 (.inr (.inl hk)))) (LA.out.l.typed.off (by decide)) (fun g hg => by
                  rcases mem3.1 hg with hg | hg | hg
                  · exact .inl (mem3.2 (.inl hg))
                  · exact (O6 g hg).imp (fun h => mem3.2 (.inr (.inl h))) id
                  · exact .inl (mem3.2 (.inr (.inr hg))))); have se6 := P6.out.sents; (rw [HSN.out] at se6); (obtain ⟨bl6, off6, u6, e6', _, k6, _⟩ := se6.at j d HDD.out); (simp only [Option.some.injEq, Addr.mk.injEq, and_true] at e6'); (obtain ⟨rfl, rfl⟩ := e6'); clear R6 C6 O6 se6)
              | (at_builtin; refine wpList_num _ rfl (.tmp 65) (.tmp 71) 107 rfl Tryz.underlying107 rfl (E6.out.below (bl_alloc (bl_refl w6) _)) w6.heap.size _ rfl (Blk.new _ _ _) lle ?_; intro v7 w7 R7 C7 O7; have BA6 := Lib.hid (bl_alloc (bl_refl w6) (.cells #[.int .i64 d.2] 3)); have EA := Lib.hid (E6.out.below BA6.out); have LS := Lib.hid (show LawS w3 w7 v11 v6 v7 (t ++ [d0, d1, d2, d3, d4, d5, d6, d7]) ((S ++ sn.take j) ++ [d]) from ⟨(T6.out.below BA6.out).chg C7 EA.out.own ((T6.out.below BA6.out).typed.disj EA.out.typed (by decide)), by rw [List.map_append]; exact (L6.out.below BA6.out).chg C7 EA.out.own ((L6.out.below BA6.out).typed.disj EA.out.typed (by decide)) (EA.out.typed.off (by decide)), by rw [List.map_append]; exact R7⟩); have P7 := Lib.hid ((P6.out.below BA6.out).far (A' := law3 v11 v6 v7) C7 (fun k hk => .inl (mem3.2 (.inr (.inr hk)))) (EA.out.typed.off (by decide)) (fun g hg => by
                  rcases mem3.1 hg with hg | hg | hg
                  · exact .inl (mem3.2 (.inl hg))
                  · exact .inl (mem3.2 (.inr (.inl hg)))
                  · exact (O7 g hg).imp (fun h => mem3.2 (.inr (.inr h))) id)); clear R7 C7 O7))
            go_roundw
            case rel => exact ⟨j + 1, by omega, by go_num, by rw [List.take_add_one, HDD.out, ← List.append_assoc]; exact LS.out, P7.out⟩
            case measure => simp [intOf]; omega
          · have hj9 : j = ns := by omega
            subst hj9
            have kk : ¬ (j : Int) < j := by omega
            have hl9 : sn.take j = sn := List.take_of_length_le (by rw [HNS.out]; exact Nat.le_refl _)
            rw [hl9] at A
            have HA9 := Lib.hid A
            clear A P
            go_wp2
            go_roundw
            case rel =>
              have h9 := HTK.out
              rw [show 65 * k + 1 + 64 = 65 * (k + 1) by omega] at h9
              exact ⟨k + 1, p', _, _, by omega, by go_num, by have := HTL.out; simp; omega, h9, HA9.out, HPS.out.pow⟩
            case measure => simp [intOf]; omega
    · obtain rfl : k = n := by omega
      have kk : ¬ (k : Int) < k := by omega
      obtain ⟨T, hT⟩ : ∃ T, 8 * k = T := ⟨_, rfl⟩
      rw [hT] at htl
      obtain ⟨av, cv, e, _⟩ := A.t.bits.shape
      rw [htl] at e
      subst e
      obtain ⟨nS, hnS⟩ : ∃ nS, S.length = nS := ⟨_, rfl⟩
      obtain ⟨al, cl, e, _⟩ := A.l.shape
      rw [List.length_map, hnS] at e
      subst e
      obtain ⟨ae, ce, e, _⟩ := A.e.shape
      rw [List.length_map, hnS] at e
      subst e
      have HH := Lib.hid (KHear_c A.t.bits (by omega))
      have hev := R.str.ear
      have hfd : T < 8 ∨ (8 ≤ T ∧ (erz.run 0 t).1.found = true) := by
        by_cases h0 : T < 8
        · exact .inl h0
        · exact .inr ⟨by omega, R.str.found (by omega)⟩
      have BW := Lib.hid (bl_then B3.out A.t.bel)
      have hel : (erz.run 0 t).2.length = nS := by rw [hev]; simp [sentEv, hnS]
      have hnl : nS ≤ 100000 := by have := Er.evs_len t erz 0; omega
      have HLK := Lib.hid R.lk
      have HL := Lib.hid A.l
      have HE := Lib.hid A.e
      have HNS := Lib.hid hnS
      clear R A P hnS
      generalize erz.run 0 t = r at HH hev hfd hel
      obtain ⟨re, evs⟩ := r
      dsimp only at HH hev hfd hel
      generalize re.found = fd at HH hfd
      have HEV := Lib.hid hev
      have HEL := Lib.hid hel
      clear hev
      rcases hfd with h8 | ⟨h8, hfd⟩
      · have c8 : ¬ (8 : Int) ≤ (T : Int) := by omega
        have c8' : (T : Int) < 8 := by omega
        go_upto_region 23 with (first
          | ((with_reducible refine HH.out.mono ?_); rintro e w5 ⟨vl, rfl, AH⟩; (obtain ⟨ah, ch, ev, _⟩ := AH.rows.shape); (rw [hel] at ev); subst ev; have HAH := Lib.hid AH; clear AH))
        go_wp2
        go_loopw [18] (fun i wx => ∃ j : Nat, j ≤ nS ∧ i = .int .i64 j ∧ Below w5.heap.size w5 wx) (fun i _ => nS - (intOf i).toNat)
        case atStart => exact ⟨0, by omega, rfl, bl_refl w5⟩
        case round =>
          obtain ⟨j, hj, rfl, B⟩ := hrel
          have HBJ := Lib.hid B
          clear B
          by_cases hjn : j < nS
          · have hjn' : (j : Int) < nS := by omega
            obtain ⟨d, hd⟩ : ∃ d, S[j]? = some d := ⟨_, List.getElem?_eq_getElem (by rw [HNS.out]; exact hjn)⟩
            obtain ⟨a, b9, s9, hlk, ra, rb, rs⟩ := HLK.out d (List.mem_of_getElem? hd)
            obtain ⟨d1, d2⟩ := d
            dsimp only at hlk
            subst hlk
            obtain ⟨b1, o1, u1, rfl, k1, y1⟩ := HL.out.at j [a, b9, 1, s9] (by rw [List.getElem?_map, hd]; rfl)
            obtain ⟨b2, o2, rfl, k2⟩ := HE.out.at j d2 (by rw [List.getElem?_map, hd]; rfl)
            obtain ⟨b3, o3, u3, rfl, m0, m1, m2, y3⟩ := HAH.out.rows.at j ((0, [a, b9, 1, s9]), d2) (by rw [HEV.out]; unfold sentEv; rw [List.getElem?_map, hd]; rfl)
            have BH := bl_then HAH.out.bel HBJ.out
            have h1 := below_cell BH k1
            have h2 := below_cell BH k2
            have h30 := below_cell HBJ.out m0
            have h31 := below_cell HBJ.out m1
            have h32 := below_cell HBJ.out m2
            have Y1 := Lib.hid (Byt.below y1 BH)
            have Y3 := Lib.hid (Byt.below y3 HBJ.out)
            obtain ⟨q1, c91, eu1, _⟩ := y1.1.shape
            obtain ⟨q3, c93, eu3, _⟩ := y3.1.shape
            have eu1' : u1 = .slice q1 4 c91 := eu1
            have eu3' : u3 = .slice q3 4 c93 := eu3
            subst eu1'
            subst eu3'
            clear eu1 eu3
            have HD := Lib.hid (KDec_c Y1.out)
            dsimp only at h30 h31 h32
            have K1 := Lib.hid h1
            have K2 := Lib.hid h2
            have K30 := Lib.hid h30
            have K31 := Lib.hid h31
            have K32 := Lib.hid h32
            clear hd ra rb rs k1 k2 m0 m1 m2 y1 y3 BH h2 h30 h31 h32
            go_upto_region 27 with (first
              | ((with_reducible refine HD.out.mono ?_); rintro e w6 ⟨x0, x1, x2, x3, x5, rfl, b6⟩; have HB6 := Lib.hid b6; clear b6))
            have N7 := Lib.hid (Blk.new w6 #[.int .u8 x0, .int .u8 x1, .bool x2, .bool x3, .int .u8 1, .int .u8 x5, .bool false, .slice none 0 0] 31)
            have B7 := Lib.hid (bl_then HB6.out (bl_alloc (bl_refl w6) (.cells #[.int .u8 x0, .int .u8 x1, .bool x2, .bool x3, .int .u8 1, .int .u8 x5, .bool false, .slice none 0 0] 31)))
            have up_1 := fun g : Up (w6.alloc (.cells #[.int .u8 x0, .int .u8 x1, .bool x2, .bool x3, .int .u8 1, .int .u8 x5, .bool false, .slice none 0 0] 31)) => below_cell g.ok (below_cell B7.out K1.out)
            have up_2 := fun g : Up (w6.alloc (.cells #[.int .u8 x0, .int .u8 x1, .bool x2, .bool x3, .int .u8 1, .int .u8 x5, .bool false, .slice none 0 0] 31)) => below_cell g.ok (below_cell B7.out K2.out)
            have up_30 := fun g : Up (w6.alloc (.cells #[.int .u8 x0, .int .u8 x1, .bool x2, .bool x3, .int .u8 1, .int .u8 x5, .bool false, .slice none 0 0] 31)) => below_cell g.ok (below_cell B7.out K30.out)
            have up_31 := fun g : Up (w6.alloc (.cells #[.int .u8 x0, .int .u8 x1, .bool x2, .bool x3, .int .u8 1, .int .u8 x5, .bool false, .slice none 0 0] 31)) => below_cell g.ok (below_cell B7.out K31.out)
            have up_32 := fun g : Up (w6.alloc (.cells #[.int .u8 x0, .int .u8 x1, .bool x2, .bool x3, .int .u8 1, .int .u8 x5, .bool false, .slice none 0 0] 31)) => below_cell g.ok (below_cell B7.out K32.out)
            have up_n := fun g : Up (w6.alloc (.cells #[.int .u8 x0, .int .u8 x1, .bool x2, .bool x3, .int .u8 1, .int .u8 x5, .bool false, .slice none 0 0] 31)) => (Blk.below N7.out g.ok).c
            have up_c1 := fun g : Up (w6.alloc (.cells #[.int .u8 x0, .int .u8 x1, .bool x2, .bool x3, .int .u8 1, .int .u8 x5, .bool false, .slice none 0 0] 31)) => conv_back (Byt.below (Byt.below Y1.out B7.out) g.ok)
            have up_c3 := fun g : Up (w6.alloc (.cells #[.int .u8 x0, .int .u8 x1, .bool x2, .bool x3, .int .u8 1, .int .u8 x5, .bool false, .slice none 0 0] 31)) => conv_back (Byt.below (Byt.below Y3.out B7.out) g.ok)
            generalize strOfNums [a, b9, 1, s9] = str at up_c1 up_c3
            refine wp_region_up (by kernel_rfl) (by kernel_rfl) ?_
            repeat (go_big_quiet_step (fail))
            refine wpQuiet_nil ?_
            clear up_1 up_2 up_30 up_31 up_32 up_n up_c1 up_c3
            refine up_elim (fun w8 hb8 => ?_)
            go_wp2
            go_roundw
            case rel => exact ⟨j + 1, by omega, by go_num, bl_then HBJ.out (bl_then B7.out hb8)⟩
            case measure => simp [intOf]; omega
          · obtain rfl : j = nS := by omega
            have jj : ¬ (j : Int) < j := by omega
            go_wp2
            go_ret
            exact ⟨rfl, bl_then (bl_then BW.out HAH.out.bel) HBJ.out⟩
      · subst hfd
        have c8 : (8 : Int) ≤ (T : Int) := by omega
        go_upto_region 23 with (first
          | ((with_reducible refine HH.out.mono ?_); rintro e w5 ⟨vl, rfl, AH⟩; (obtain ⟨ah, ch, ev, _⟩ := AH.rows.shape); (rw [hel] at ev); subst ev; have HAH := Lib.hid AH; clear AH))
        go_wp2
        go_loopw [18] (fun i wx => ∃ j : Nat, j ≤ nS ∧ i = .int .i64 j ∧ Below w5.heap.size w5 wx) (fun i _ => nS - (intOf i).toNat)
        case atStart => exact ⟨0, by omega, rfl, bl_refl w5⟩
        case round =>
          obtain ⟨j, hj, rfl, B⟩ := hrel
          have HBJ := Lib.hid B
          clear B
          by_cases hjn : j < nS
          · have hjn' : (j : Int) < nS := by omega
            obtain ⟨d, hd⟩ : ∃ d, S[j]? = some d := ⟨_, List.getElem?_eq_getElem (by rw [HNS.out]; exact hjn)⟩
            obtain ⟨a, b9, s9, hlk, ra, rb, rs⟩ := HLK.out d (List.mem_of_getElem? hd)
            obtain ⟨d1, d2⟩ := d
            dsimp only at hlk
            subst hlk
            obtain ⟨b1, o1, u1, rfl, k1, y1⟩ := HL.out.at j [a, b9, 1, s9] (by rw [List.getElem?_map, hd]; rfl)
            obtain ⟨b2, o2, rfl, k2⟩ := HE.out.at j d2 (by rw [List.getElem?_map, hd]; rfl)
            obtain ⟨b3, o3, u3, rfl, m0, m1, m2, y3⟩ := HAH.out.rows.at j ((0, [a, b9, 1, s9]), d2) (by rw [HEV.out]; unfold sentEv; rw [List.getElem?_map, hd]; rfl)
            have BH := bl_then HAH.out.bel HBJ.out
            have h1 := below_cell BH k1
            have h2 := below_cell BH k2
            have h30 := below_cell HBJ.out m0
            have h31 := below_cell HBJ.out m1
            have h32 := below_cell HBJ.out m2
            have Y1 := Lib.hid (Byt.below y1 BH)
            have Y3 := Lib.hid (Byt.below y3 HBJ.out)
            obtain ⟨q1, c91, eu1, _⟩ := y1.1.shape
            obtain ⟨q3, c93, eu3, _⟩ := y3.1.shape
            have eu1' : u1 = .slice q1 4 c91 := eu1
            have eu3' : u3 = .slice q3 4 c93 := eu3
            subst eu1'
            subst eu3'
            clear eu1 eu3
            have HD := Lib.hid (KDec_c Y1.out)
            dsimp only at h30 h31 h32
            have K1 := Lib.hid h1
            have K2 := Lib.hid h2
            have K30 := Lib.hid h30
            have K31 := Lib.hid h31
            have K32 := Lib.hid h32
            clear hd ra rb rs k1 k2 m0 m1 m2 y1 y3 BH h2 h30 h31 h32
            go_upto_region 27 with (first
              | ((with_reducible refine HD.out.mono ?_); rintro e w6 ⟨x0, x1, x2, x3, x5, rfl, b6⟩; have HB6 := Lib.hid b6; clear b6))
            have N7 := Lib.hid (Blk.new w6 #[.int .u8 x0, .int .u8 x1, .bool x2, .bool x3, .int .u8 1, .int .u8 x5, .bool false, .slice none 0 0] 31)
            have B7 := Lib.hid (bl_then HB6.out (bl_alloc (bl_refl w6) (.cells #[.int .u8 x0, .int .u8 x1, .bool x2, .bool x3, .int .u8 1, .int .u8 x5, .bool false, .slice none 0 0] 31)))
            have up_1 := fun g : Up (w6.alloc (.cells #[.int .u8 x0, .int .u8 x1, .bool x2, .bool x3, .int .u8 1, .int .u8 x5, .bool false, .slice none 0 0] 31)) => below_cell g.ok (below_cell B7.out K1.out)
            have up_2 := fun g : Up (w6.alloc (.cells #[.int .u8 x0, .int .u8 x1, .bool x2, .bool x3, .int .u8 1, .int .u8 x5, .bool false, .slice none 0 0] 31)) => below_cell g.ok (below_cell B7.out K2.out)
            have up_30 := fun g : Up (w6.alloc (.cells #[.int .u8 x0, .int .u8 x1, .bool x2, .bool x3, .int .u8 1, .int .u8 x5, .bool false, .slice none 0 0] 31)) => below_cell g.ok (below_cell B7.out K30.out)
            have up_31 := fun g : Up (w6.alloc (.cells #[.int .u8 x0, .int .u8 x1, .bool x2, .bool x3, .int .u8 1, .int .u8 x5, .bool false, .slice none 0 0] 31)) => below_cell g.ok (below_cell B7.out K31.out)
            have up_32 := fun g : Up (w6.alloc (.cells #[.int .u8 x0, .int .u8 x1, .bool x2, .bool x3, .int .u8 1, .int .u8 x5, .bool false, .slice none 0 0] 31)) => below_cell g.ok (below_cell B7.out K32.out)
            have up_n := fun g : Up (w6.alloc (.cells #[.int .u8 x0, .int .u8 x1, .bool x2, .bool x3, .int .u8 1, .int .u8 x5, .bool false, .slice none 0 0] 31)) => (Blk.below N7.out g.ok).c
            have up_c1 := fun g : Up (w6.alloc (.cells #[.int .u8 x0, .int .u8 x1, .bool x2, .bool x3, .int .u8 1, .int .u8 x5, .bool false, .slice none 0 0] 31)) => conv_back (Byt.below (Byt.below Y1.out B7.out) g.ok)
            have up_c3 := fun g : Up (w6.alloc (.cells #[.int .u8 x0, .int .u8 x1, .bool x2, .bool x3, .int .u8 1, .int .u8 x5, .bool false, .slice none 0 0] 31)) => conv_back (Byt.below (Byt.below Y3.out B7.out) g.ok)
            generalize strOfNums [a, b9, 1, s9] = str at up_c1 up_c3
            refine wp_region_up (by kernel_rfl) (by kernel_rfl) ?_
            repeat (go_big_quiet_step (fail))
            refine wpQuiet_nil ?_
            clear up_1 up_2 up_30 up_31 up_32 up_n up_c1 up_c3
            refine up_elim (fun w8 hb8 => ?_)
            go_wp2
            go_roundw
            case rel => exact ⟨j + 1, by omega, by go_num, bl_then HBJ.out (bl_then B7.out hb8)⟩
            case measure => simp [intOf]; omega
          · obtain rfl : j = nS := by omega
            have jj : ¬ (j : Int) < j := by omega
            go_wp2
            go_ret
            exact ⟨rfl, bl_then (bl_then BW.out HAH.out.bel) HBJ.out⟩
end Go.Proofs.YtdffinnnjcgfcaaGreatK
