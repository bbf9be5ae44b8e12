/- The walk of PostAlways. -/
import Derived.Test.YtdffinnnjcgfcaaGreatTe8
namespace Go.Proofs.YtdffinnnjcgfcaaGreatK
open Go Go.RowKit
set_option linter.unusedVariables false
set_option maxHeartbeats 40000000
set_option maxRecDepth 100000
theorem byt_new4 {w : World} (x y z u : Int) (hx : 0 ≤ x ∧ x ≤ 255) (hy : 0 ≤ y ∧ y ≤ 255) (hz : 0 ≤ z ∧ z ≤ 255) (hu : 0 ≤ u ∧ u ≤ 255) : BytV (w.alloc (.cells #[.int .u8 x, .int .u8 y, .int .u8 z, .int .u8 u] 5)) (.slice (some ⟨w.heap.size, 0, none⟩) 4 4) [x, y, z, u] := by
  refine ⟨⟨by simp, .inr ⟨w.heap.size, 0, 4, _, rfl, by simp, by simp [maxLen], Blk.new _ _ _, by simp, fun j v hv => ?_⟩⟩, fun v hv => ?_⟩
  · simpa using hv
  · simp only [List.mem_cons, List.not_mem_nil, or_false] at hv
    rcases hv with rfl | rfl | rfl | rfl <;> assumption
/-- A terminal of which such bits went out, and such units. -/
structure PoR (p : Po) (m : Nat) (t : List Bool) : Prop where
  ok : p.ok m
  str : ∃ S, p.str t S
theorem PoR.order {p : Po} {m : Nat} {t : List Bool} (h : PoR p m t) (k : Int) (o : Oct) : PoR { p with x := (p.x.order k o).1 } (m + 1) t := by
  obtain ⟨S, hs⟩ := h.str
  have h9 := h.ok.le (m := m + 1) (by omega)
  exact ⟨⟨St.ok_order h.ok.x k o, (St.few_order h.ok.few k o).le (by omega), h9.e, h9.gone, h9.came, h9.out, h9.sent, h9.got⟩, S, hs.gone, hs.ear, hs.now⟩
theorem PoR.tick {p : Po} {m : Nat} {t : List Bool} (h : PoR p m t) (l : List Bool) (hl : l.length = 8) (ho : (l.foldl Po.inB p.first).x.h.oct) : PoR (p.tick l).1 (m + 64) (t ++ (p.tick l).2) := by
  obtain ⟨S, hs⟩ := h.str
  exact ⟨Po.ok_tick h.ok l hl ho, _, Po.str_tick hs h.ok l ho⟩
theorem wpList_bitsA {ops : Array Oper} {rest : List Oper} {o : Oper} {a : Act} {Q : Exit → Act → World → Prop} (w : World) (hgd : o.guard = none) (s x : Operand) (t : TypeId)
    (ho : o.op = .call { callee := .builtin .append, args := #[s, x], argTypes := #[t, t] }) (ht : Tryz.prog.underlying t = some (.slice 4))
    (v : Value) (xs ys : List Bool) (hs : a.eval s = v) (g n c : Nat) (ty : TypeId) (hx : a.eval x = .slice (some ⟨g, 0, none⟩) n c) (hv : BitV w v xs) (hb : Blk w g (ys.map Value.bool).toArray ty) (hn : ys.length = n) (h0 : 0 < n) (hl : xs.length + n ≤ 1000000)
    (h : ∀ v' w', BitV w' v' (xs ++ ys) → Chg (own v) w w' → (∀ b ∈ own v', b ∈ own v ∨ w.heap.size ≤ b) → wpList Tryz.prog ops Q rest (a.put o.dst v') w') : wpList Tryz.prog ops Q (o :: rest) a w := by
  subst hn
  exact wpList_row_append w hgd s x t ho 4 Tryz.t4 (.bool false) 1 1 ht rfl rfl rfl rfl rfl (by decide) v xs.length (xs.map Value.bool) hs hv ⟨g, 0, none⟩ ys.length c (ys.map Value.bool) hx (by simp)
    (fun j u hu => by rw [Addr.add_lit, hb.c, Nat.zero_add, List.getElem?_toArray]; exact hu) (fun u hu => by obtain ⟨b, _, rfl⟩ := List.mem_map.1 hu; rfl) h0 (by simp [maxLen]; omega) (by omega)
    (fun v' w' R C O => h v' w' (by unfold BitV; rw [List.length_append, List.map_append]; exact R) C O)
theorem Acc.far {w0 w w' : World} {v : Value} {t : List Bool} {A : List Nat} (h : Acc w0 w v t) (F : Far w0 w w' A) (hA : ∀ g ∈ Go.Proofs.YtdffinnnjcgfcaaGreatK.own v, g ∈ A) : Acc w0 w' v t := ⟨F.bel h.bel, F.row h.bits hA, h.own⟩
theorem Heards.kind {w : World} {a : Option Addr} {n c : Nat} {l : List ((Int × Oct) × Int)} (h : Heards w (.slice a n c) l) (j : Nat) (d : (Int × Oct) × Int) (hd : l[j]? = some d) : ∃ bl off, a = some ⟨bl, off, none⟩ ∧ w.cell? ⟨bl, off + j * 3, none⟩ = some (.int .u8 d.1.1) := by
  obtain ⟨ps, ep, r, q⟩ := h
  have hl := (List.getElem?_eq_some_iff.1 hd).1
  have hp : j < ps.length := by have := congrArg List.length ep; simp at this; omega
  have et : ps[j].1 = d := by
    have : (ps.map (·.1))[j]? = some d := by rw [ep]; exact hd
    simpa [List.getElem?_eq_getElem hp] using this
  obtain ⟨c0, _, _⟩ := cmCells_get ps j hp
  rcases r.2 with ⟨_, h0⟩ | ⟨bl, off, cap', cs, hv, h1, h2, h3, h4, h5⟩
  · omega
  · simp only [Value.slice.injEq] at hv
    exact ⟨bl, off, hv.1, by rw [Nat.mul_comm j 3, h3.c, h5 _ _ c0, et]⟩
theorem off_bool {w : World} {v : Value} {t : List Bool} (h : BitV w v t) : Off w 5 (own v) := fun g hg => by
  obtain ⟨cs, h1⟩ := Row.blk h g hg
  exact ⟨cs, _, h1, by decide⟩
theorem bits8_take (x : Int) (q : Nat) (hq : q < 8) : (bits8 x).take (q + 1) = (bits8 x).take q ++ [bitAt x q] := by
  rw [List.take_add_one]
  have : (bits8 x)[q]? = some (bitAt x q) := by unfold bits8; rw [List.getElem?_map, List.getElem?_range hq]; rfl
  rw [this]; rfl
theorem PostAlways_w (cyc : Bool) (v1 : Value) (xs : Oct) (v2 : Value) (ys : Oct) (W : World) (h1 : BytI W [] v1 xs) (_l1 : xs.length ≤ maxLen) (h2 : BytI W [] v2 ys) (_l2 : ys.length ≤ maxLen) :
    Calls Tryz.prog 19 #[.bool cyc, v1, v2] W fun e W' => e = .returned (.bool true) ∧ Below W.heap.size W W' := by
  obtain ⟨a1, c1, rfl, hc1⟩ := h1.shape
  obtain ⟨a2, c2, rfl, hc2⟩ := h2.shape
  obtain ⟨n, hn⟩ : ∃ n, xs.length = n := ⟨_, rfl⟩
  obtain ⟨n2, hn2⟩ : ∃ n, ys.length = n := ⟨_, rfl⟩
  have H1 := Lib.hid h1
  have H2 := Lib.hid h2
  rw [hn] at H1 hc1 ⊢
  rw [hn2] at H2 hc2 ⊢
  have HN := Lib.hid hn
  have HN2 := Lib.hid hn2
  clear h1 h2 _l1 _l2 hn hn2
  have AW := Lib.hid (PAwake_c W)
  have AW2 := Lib.hid (fun w => PAwake_c w)
  by_cases hx : 400 < n
  · have hx' : (400 : Int) < n := by omega
    go_enter Tryz.func19, Tryz.ntmps19
    go_wp2_with (first
      | ((with_reducible refine AW.out.mono ?_); rintro e w2 ⟨rfl, b2⟩; have B2 := Lib.hid b2; clear b2)
      | ((with_reducible refine (AW2.out _).mono ?_); rintro e w3 ⟨rfl, b3⟩; have B3 := Lib.hid (bl_then B2.out b3); clear b3))
    go_ret
    exact ⟨rfl, B3.out⟩
  have hx' : ¬ (400 : Int) < n := by omega
  by_cases hy : 100 < n2
  · have hy' : (100 : Int) < n2 := by omega
    go_enter Tryz.func19, Tryz.ntmps19
    go_wp2_with (first
      | ((with_reducible refine AW.out.mono ?_); rintro e w2 ⟨rfl, b2⟩; have B2 := Lib.hid b2; clear b2)
      | ((with_reducible refine (AW2.out _).mono ?_); rintro e w3 ⟨rfl, b3⟩; have B3 := Lib.hid (bl_then B2.out b3); clear b3))
    go_ret
    exact ⟨rfl, B3.out⟩
  have hy' : ¬ (100 : Int) < n2 := by omega
  have HU := Lib.hid (fun w => Usual_c cyc w)
  have HNW := Lib.hid (fun w => PNewU_c cyc w)
  go_enter Tryz.func19, Tryz.ntmps19
  go_wp2_with (first
    | ((with_reducible refine AW.out.mono ?_); rintro e w2 ⟨rfl, b2⟩; have B2 := Lib.hid b2; clear b2)
    | ((with_reducible refine (HU.out _).mono ?_); rintro e w3 ⟨rfl, b3⟩; have B3 := Lib.hid (bl_then B2.out b3); clear b3)
    | ((with_reducible refine (HNW.out _).mono ?_); rintro e w4 ⟨b, rfl, P4, b4⟩; have HP4 := Lib.hid P4; have HB4 := Lib.hid b4; have B4 := Lib.hid (bl_then B3.out b4); clear P4 b4))
  go_loopw [9, 10] (fun o i wr => ∃ (k : Nat) (p : Po) (t : List Bool), k ≤ n ∧ i = .int .i64 k ∧ t.length = 8 * k ∧ PoR p (65 * k) t ∧ Acc w3 wr o t ∧ PoW w3 wr b p (own o)) (fun _ i _ => n - (intOf i).toNat)
  case atStart => exact ⟨0, _, [], by omega, rfl, rfl, ⟨newU_ok cyc, _, Po.str_new _⟩, ⟨HB4.out, BitV.nil _, by simp [own, Value.ownBlock]⟩, HP4.out⟩
  case round =>
    obtain ⟨k, p, t, hk, rfl, htl, R, A, P⟩ := hrel
    by_cases hlt : k < n
    · have hlt' : (k : Int) < n := by omega
      have HR := Lib.hid R
      have HA := Lib.hid A
      have HP := Lib.hid P
      have HTL := Lib.hid htl
      have BW := Lib.hid (bl_then B3.out A.bel)
      obtain ⟨x, hxx⟩ : ∃ x, xs[k]? = some x := ⟨_, List.getElem?_eq_getElem (by rw [HN.out]; exact hlt)⟩
      obtain ⟨⟨bl, off, rfl, hcell⟩, hxb⟩ := H1.out.at k x hxx
      have HC := Lib.hid hcell
      clear R A P hcell hxx htl
      go_upto_if 45 with fail
      go_cut [] (fun wx => ∃ p', PoR p' (65 * k + 1) t ∧ Acc w3 wx u9 t ∧ PoW w3 wx b p' (own u9))
      case first =>
        by_cases hky : k < n2
        · have hky' : (k : Int) < n2 := by omega
          obtain ⟨y, hyy⟩ : ∃ y, ys[k]? = some y := ⟨_, List.getElem?_eq_getElem (by rw [HN2.out]; exact hky)⟩
          obtain ⟨⟨bo, oo, rfl, hcy⟩, hyb⟩ := H2.out.at k y hyy
          have kw := below_cell BW.out hcy
          have kd := below_cell (bl_drew (bl_refl wr)) kw
          have BO := Lib.hid (bl_drew (bl_alloc (bl_refl wr) (.cells #[.int .u8 y, .int .u8 1, .int .u8 2, .int .u8 3] 5)))
          have hbv := Byt.below (byt_new4 (w := wr) y 1 2 3 hyb (by omega) (by omega) (by omega)) (bl_drew (bl_refl _))
          have PB := Lib.hid (HP.out.below BO.out)
          have HO := Lib.hid (PB.out.order (A := own u9) (Nat.le_trans HA.out.bel.size BO.out.size) (fun g hg => Nat.lt_of_lt_of_le (Row.lt HA.out.bits g hg) BO.out.size) HR.out.ok.x (HR.out.ok.few.le (by omega)) (y.tmod 13) hbv.i0 (by simp))
          have HCY := Lib.hid hcy
          clear hyy hcy hbv
          go_upto_region 9 with fail
          go_region_held3 (fun w' => w'.cell? ⟨bo, oo + k, none⟩ = some (.int .u8 y)) (first | exact kd | exact k6 | go_keep) (first
            | ((with_reducible refine HO.out.mono ?_); rintro e w6 ⟨rfl, P6, F6⟩; have k6 := below_cell (bl_then B3.out (F6.bel (bl_then HA.out.bel BO.out))) HCY.out; have HP6 := Lib.hid P6; have HF6 := Lib.hid F6; clear P6 F6))
          go_wp2
          go_meet
          case rel => exact ⟨_, HR.out.order _ _, (HA.out.below BO.out).far HF6.out (fun g hg => hg), HP6.out⟩
        · have hky' : ¬ (k : Int) < n2 := by omega
          go_wp2
          go_meet
          case rel => exact ⟨p, ⟨HR.out.ok.le (by omega), HR.out.str⟩, HA.out, HP.out⟩
      case rest =>
        obtain ⟨q, R1, A1, P1⟩ := hcut
        have B5 := Lib.hid (bl_alloc (bl_refl wc) (.cells (bits8c []) 98))
        have N5 := Lib.hid (Blk.new wc (bits8c []) 98)
        have hA1 : ∀ g ∈ own u9, g < wc.heap.size := fun g hg => Row.lt A1.bits g hg
        have P5 := Lib.hid (P1.far (F := []) (A' := wc.heap.size :: own u9) (.of_below B5.out _) (by simp) (by simp [Off]) (fun g hg => by
          rcases List.mem_cons.1 hg with rfl | hg
          · exact .inr (Nat.le_refl _)
          · exact .inl hg))
        have A5 := Lib.hid (A1.below B5.out)
        have HR1 := Lib.hid R1
        have BW5 := Lib.hid (bl_then B3.out A5.out.bel)
        have hgW : W.heap.size ≤ wc.heap.size := (bl_then B3.out A1.bel).size
        have hg3 : w3.heap.size ≤ wc.heap.size := A1.bel.size
        have HA1 := Lib.hid hA1
        obtain ⟨g, hg⟩ : ∃ g, wc.heap.size = g := ⟨_, rfl⟩
        have HG := Lib.hid hg
        go_upto_region 11 with fail
        have N5' : Blk (wc.alloc (.cells (bits8c []) 98)) g (bits8c []) 98 := hg ▸ N5.out
        change Code.wp _ _ _ _ (wc.alloc (.cells (bits8c []) 98))
        generalize wc.alloc (.cells (bits8c []) 98) = w5 at B5 P5 A5 BW5 N5' ⊢
        rw [hg] at P5 hgW hg3
        clear N5 A1 P1 R1 hA1
        go_wp2
        go_loopw [12] (fun j wx => ∃ z : Nat, z ≤ 8 ∧ j = .int .i64 z ∧ Chg [g] w5 wx ∧ Blk wx g (bits8c ((bits8 x).take z)) 98) (fun j _ => 8 - (intOf j).toNat)
        case atStart => exact ⟨0, by omega, rfl, Chg.refl _ _, N5'⟩
        case round =>
          obtain ⟨z, hz, rfl, G, S⟩ := hrel
          have HGZ := Lib.hid G
          have HS := Lib.hid S
          have BX := Lib.hid (BW5.out.trans (G.to_below BW5.out.size (fun k hk => by
            obtain rfl : k = g := by simpa using hk
            exact hgW)))
          have sf := S.f
          have hl8 : ((bits8 x).take z).length = z := by rw [List.length_take, bits8_len]; omega
          clear G
          by_cases hz8 : z < 8
          · have hz8' : (z : Int) < 8 := by omega
            have hcx := below_cell BX.out HC.out
            have h9 := bits8c_at ((bits8 x).take z) (by rw [hl8]; exact hz8)
            rw [hl8] at h9
            have hat := (S.c z).trans h9
            clear h9
            have hr := bit_range x z hxb
            have HSET := Lib.hid (show (bits8c ((bits8 x).take z)).setIfInBounds z (.bool (bitAt x z)) = bits8c ((bits8 x).take (z + 1)) by rw [bits8_take x z hz8]; have h9 := bits8c_set ((bits8 x).take z) (bitAt x z) (by omega); rw [hl8] at h9; exact h9)
            clear S hl8
            go_wp2
            go_roundw
            case rel => exact ⟨z + 1, by omega, by go_num, HGZ.out.set (.inl (by simp)) _, (HS.out.set z _).as HSET.out⟩
            case measure => simp [intOf]; omega
          · have hz9 : z = 8 := by omega
            have e8 : (z : Int) = 8 := by omega
            rw [e8]
            subst hz9
            clear e8 hl8 sf
            have hb8 : (bits8 x).take 8 = [bitAt x 0, bitAt x 1, bitAt x 2, bitAt x 3, bitAt x 4, bitAt x 5, bitAt x 6, bitAt x 7] := List.take_of_length_le (by rw [bits8_len]; exact Nat.le_refl _)
            rw [hb8] at S
            generalize bitAt x 0 = c0 at S
            generalize bitAt x 1 = c1 at S
            generalize bitAt x 2 = c2 at S
            generalize bitAt x 3 = c3 at S
            generalize bitAt x 4 = c4 at S
            generalize bitAt x 5 = c5 at S
            generalize bitAt x 6 = c6 at S
            generalize bitAt x 7 = c7 at S
            have S8 : Blk wr g #[.bool c0, .bool c1, .bool c2, .bool c3, .bool c4, .bool c5, .bool c6, .bool c7] 98 := S
            have s8c := S8.c
            have offg : Off w5 5 [g] := fun k hk => by
              obtain rfl : k = g := by simpa using hk
              exact ⟨_, _, N5', by decide⟩
            have hgn : ∀ k ∈ own u9, k ∉ [g] := fun k hk hk2 => by
              obtain rfl : k = g := by simpa using hk2
              have := HA1.out k hk
              have := HG.out
              omega
            have A8 := Lib.hid (show Acc w3 wr u9 t from ⟨A5.out.bel.trans (HGZ.out.to_below A5.out.bel.size (fun k hk => by
              obtain rfl : k = g := by simpa using hk
              exact hg3)), Row.chg A5.out.bits HGZ.out hgn, A5.out.own⟩)
            have P8 := Lib.hid (P5.out.far HGZ.out (fun k hk => .inl (by
              obtain rfl : k = g := by simpa using hk
              simp)) offg (A' := own u9) (fun k hk => .inl (List.mem_cons_of_mem _ hk)))
            have HT := Lib.hid (P8.out.tick A8.out.bel.size (fun k hk => Row.lt A8.out.bits k hk) HR1.out.ok (by omega) c0 c1 c2 c3 c4 c5 c6 c7)
            clear S S8 hb8 offg
            go_upto_region 16 with (first
              | ((with_reducible refine HT.out.mono ?_); rintro e w9 ⟨⟨d0, d1, d2, d3, d4, d5, d6, d7, hd, rfl⟩, P9, F9, ho⟩; have HD := Lib.hid hd; have HP9 := Lib.hid P9; have HF9 := Lib.hid F9; have HO := Lib.hid ho; have A9 := Lib.hid (A8.out.far F9 (fun g hg => hg)); clear hd P9 F9 ho))
            have N10 := Blk.new w9 ([d0, d1, d2, d3, d4, d5, d6, d7].map Value.bool).toArray 98
            have B10 := bl_alloc (bl_refl w9) (.cells ([d0, d1, d2, d3, d4, d5, d6, d7].map Value.bool).toArray 98)
            have A10 := Lib.hid (A9.out.below B10)
            have P10 := Lib.hid (HP9.out.below B10)
            have N10h := Lib.hid N10
            have htl9 : t.length + 8 ≤ 1000000 := by have := HTL.out; omega
            clear N10 B10
            go_wp2_with (first
              | (at_builtin; refine wpList_bitsA _ rfl (.tmp 76) (.tmp 77) 67 rfl Tryz.underlying67 _ t [d0, d1, d2, d3, d4, d5, d6, d7] rfl w9.heap.size 8 8 98 rfl A10.out.bits N10h.out rfl (by omega) htl9 ?_; intro v11 w11 R11 C11 O11; have A11 := Lib.hid (A10.out.grow R11 C11 O11); have P11 := Lib.hid (P10.out.far C11 (fun k hk => .inl hk) (off_bool A10.out.bits) O11); clear R11 C11 O11))
            go_roundw
            case rel =>
              have h9 := HR1.out.tick [c0, c1, c2, c3, c4, c5, c6, c7] rfl HO.out
              rw [HD.out, show 65 * k + 1 + 64 = 65 * (k + 1) by omega] at h9
              exact ⟨k + 1, _, _, by omega, by go_num, by have := HTL.out; simp; omega, h9, A11.out, P11.out⟩
            case measure => simp [intOf]; omega
    · obtain rfl : k = n := by omega
      have kk : ¬ (k : Int) < k := by omega
      obtain ⟨S, hS⟩ := R.str
      obtain ⟨T, hT⟩ : ∃ T, 8 * k = T := ⟨_, rfl⟩
      rw [hT] at htl
      obtain ⟨av, cv, e, _⟩ := A.bits.shape
      rw [htl] at e
      subst e
      have HH := Lib.hid (KHear_c A.bits (by omega))
      have hev := hS.ear
      have hfd : T = 0 ∨ (erz.run 0 t).1.found = true := by
        by_cases h0 : T = 0
        · exact .inl h0
        · exact .inr (hS.found (by omega))
      have BW := Lib.hid (bl_then B3.out A.bel)
      have hel : (erz.run 0 t).2.length ≤ 100000 := by have := Er.evs_len t erz 0; omega
      clear R A P hS
      generalize erz.run 0 t = r at HH hev hfd hel
      obtain ⟨re, evs⟩ := r
      dsimp only at HH hev hfd hel
      generalize re.found = fd at HH hfd
      obtain ⟨ne, hne⟩ : ∃ ne, evs.length = ne := ⟨_, rfl⟩
      rw [hne] at hel
      have HEV := Lib.hid hev
      have HNE := Lib.hid hne
      clear hev
      have cT : ((T : Int) == 8 * (k : Int)) = true := by rw [beq_iff_eq]; omega
      go_wp2_with (first
        | ((with_reducible refine HH.out.mono ?_); rintro e w5 ⟨vl, rfl, AH⟩; (obtain ⟨al, cl, ev, _⟩ := AH.rows.shape); (rw [hne] at ev); subst ev; have HAH := Lib.hid AH; clear AH))
      go_loop [16] (fun i => ∃ j : Nat, j ≤ ne ∧ i = .int .i64 j) (fun i => ne - (intOf i).toNat)
      case atStart => exact ⟨0, by omega, rfl⟩
      case round =>
        obtain ⟨j, hj, rfl⟩ := hrel
        by_cases hjn : j < ne
        · have hjn' : (j : Int) < ne := by omega
          obtain ⟨d, hd⟩ : ∃ d, evs[j]? = some d := ⟨_, List.getElem?_eq_getElem (by rw [HNE.out]; exact hjn)⟩
          obtain ⟨bl, off, rfl, hcell⟩ := HAH.out.rows.kind j d hd
          have hd0 : d.1.1 = 0 := by
            have hm := List.mem_of_getElem? hd
            rw [HEV.out] at hm
            obtain ⟨q, _, rfl⟩ := List.mem_map.1 hm
            rfl
          rw [hd0] at hcell
          clear hd hd0
          go_wp2
          go_roundw
          case rel => exact ⟨j + 1, by omega, by go_num⟩
          case measure => simp [intOf]; omega
        · obtain rfl : j = ne := by omega
          have jj : ¬ (j : Int) < j := by omega
          have BE := Lib.hid (bl_then BW.out HAH.out.bel)
          clear hj hjn
          rcases hfd with h0 | h0
          · have c0 : ((T : Int) == 0) = true := by rw [beq_iff_eq]; omega
            go_wp2
            go_ret
            exact ⟨rfl, BE.out⟩
          · subst h0
            by_cases h0 : T = 0
            · have c0 : ((T : Int) == 0) = true := by rw [beq_iff_eq]; omega
              go_wp2
              go_ret
              exact ⟨rfl, BE.out⟩
            · have c0 : ((T : Int) == 0) = false := beq_eq_false_iff_ne.2 (by omega)
              go_wp2
              go_ret
              exact ⟨rfl, BE.out⟩
end Go.Proofs.YtdffinnnjcgfcaaGreatK
