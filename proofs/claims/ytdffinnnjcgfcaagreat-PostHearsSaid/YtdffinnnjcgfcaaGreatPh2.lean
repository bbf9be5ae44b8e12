/- The walks of the reference's Put, Whole, Frame, as far as a law needs them: bits, not too many. Things that came, collected. Things that came, collected by a law; a list of octets that is an argument. The walk of PostHears. -/
import Derived.Test.YtdffinnnjcgfcaaGreatPs1
namespace Go.Proofs.YtdffinnnjcgfcaaGreatK
/-! ### The walks of the reference's Put, Whole, Frame, as far as a law needs them: bits, not too many. Things that came, collected. -/
section
open Go Go.RowKit
set_option linter.unusedVariables false
set_option maxHeartbeats 20000000
set_option maxRecDepth 100000
theorem KPut_c {w : World} {v : Value} {t : List Bool} (h : BitV w v t) (hl : t.length ≤ 100000) :
    Calls Tryz.prog 104 #[v] w fun e w' => ∃ v', e = .returned v' ∧ ∃ ys, Acc w w' v' ys ∧ ys.length ≤ 2 * t.length := by
  obtain ⟨a, cap, rfl, hcap⟩ := h.shape
  obtain ⟨n, hn⟩ : ∃ n, t.length = n := ⟨_, rfl⟩
  have H := Lib.hid h
  rw [hn] at hl hcap H
  simp only [hn]
  have HN := Lib.hid hn
  clear h hn
  go_enter Tryz.func104, Tryz.ntmps104
  go_wp2
  go_loopw [3, 4, 5] (fun o c i wr => ∃ (k : Nat) (xs : List Bool) (m : Nat), k ≤ n ∧ i = .int .i64 k ∧ c = .int .i64 m ∧ m ≤ 4 ∧ xs.length ≤ 2 * k ∧ Acc w wr o xs) (fun _ _ i _ => n - (intOf i).toNat)
  case atStart => exact ⟨0, [], 0, by omega, rfl, rfl, by omega, by simp, Acc.nil w⟩
  case round =>
    obtain ⟨k, xs, m, hk, rfl, rfl, hm, hx2, A⟩ := hrel
    have HA := Lib.hid A
    clear A
    by_cases hlt : k < n
    · have hlt' : (k : Int) < n := by omega
      obtain ⟨b, hx⟩ := bit_at HN.out hlt
      obtain ⟨bl, off, rfl, hcell⟩ := H.out.at k b hx
      have hc := below_cell HA.out.bel hcell
      have HC := Lib.hid hcell
      have l1 : xs.length ≤ 1000000 := by omega
      have l2 : (xs ++ [b]).length ≤ 1000000 := by rw [List.length_append]; simp; omega
      clear hx hcell
      cases b with
      | false =>
        go_wp2_with (first
          | (at_builtin; refine wpList_bit _ rfl (.tmp 12) (.tmp 17) 67 rfl Tryz.underlying67 _ _ rfl (HA.out.bits.below (bl_alloc (bl_refl wr) _)) wr.heap.size false rfl (Blk.new wr _ _) l1 ?_; intro v6 w6 R6 C6 O6; have A6 := Lib.hid ((HA.out.below (bl_alloc (bl_refl wr) _)).grow R6 C6 O6); have hc6 := below_cell A6.out.bel HC.out; clear R6 C6 O6))
        go_roundw
        case rel => exact ⟨k + 1, xs ++ [false], 0, by omega, by go_num, rfl, by omega, by simp; omega, A6.out⟩
        case measure => simp [intOf]; omega
      | true =>
        by_cases h4 : m = 4
        · subst h4
          go_wp2_with (first
            | (at_builtin; refine wpList_bit _ rfl (.tmp 12) (.tmp 17) 67 rfl Tryz.underlying67 _ _ rfl (HA.out.bits.below (bl_alloc (bl_refl wr) _)) wr.heap.size true rfl (Blk.new wr _ _) l1 ?_; intro v6 w6 R6 C6 O6; have A6 := Lib.hid ((HA.out.below (bl_alloc (bl_refl wr) _)).grow R6 C6 O6); have hc6 := below_cell A6.out.bel HC.out; clear R6 C6 O6)
            | (at_builtin; refine wpList_bit _ rfl (.tmp 27) (.tmp 28) 67 rfl Tryz.underlying67 _ _ rfl (A6.out.bits.below (bl_alloc (bl_refl w6) _)) w6.heap.size false rfl (Blk.new w6 _ _) l2 ?_; intro v7 w7 R7 C7 O7; have A7 := Lib.hid ((A6.out.below (bl_alloc (bl_refl w6) _)).grow R7 C7 O7); clear R7 C7 O7))
          go_roundw
          case rel => exact ⟨k + 1, xs ++ [true] ++ [false], 0, by omega, by go_num, rfl, by omega, by simp; omega, A7.out⟩
          case measure => simp [intOf]; omega
        · have hne : ((m : Int) + 1 == 5) = false := beq_eq_false_iff_ne.2 (by omega)
          go_wp2_with (first
            | (at_builtin; refine wpList_bit _ rfl (.tmp 12) (.tmp 17) 67 rfl Tryz.underlying67 _ _ rfl (HA.out.bits.below (bl_alloc (bl_refl wr) _)) wr.heap.size true rfl (Blk.new wr _ _) l1 ?_; intro v6 w6 R6 C6 O6; have A6 := Lib.hid ((HA.out.below (bl_alloc (bl_refl wr) _)).grow R6 C6 O6); have hc6 := below_cell A6.out.bel HC.out; clear R6 C6 O6))
          go_roundw
          case rel => exact ⟨k + 1, xs ++ [true], m + 1, by omega, by go_num, by go_num, by omega, by simp; omega, A6.out⟩
          case measure => simp [intOf]; omega
    · obtain rfl : k = n := by omega
      have kk : ¬ (k : Int) < k := by omega
      go_wp2
      go_ret
      exact ⟨_, rfl, xs, HA.out, hx2⟩
theorem KWhole_c {w : World} {v : Value} {p : Oct} (h : BytI w [] v p) (hl : p.length ≤ 1000) :
    Calls Tryz.prog 105 #[v] w fun e w' => ∃ v', e = .returned v' ∧ AccO w w' v' (p ++ checkO p) := by
  obtain ⟨a, cap, rfl, hcap⟩ := h.shape
  have H := Lib.hid h
  have HL := Lib.hid hl
  clear h hl
  go_enter Tryz.func105, Tryz.ntmps105
  go_wp2_with (first
    | (at_builtin; refine wpList_byt _ rfl (.tmp 4) (.tmp 5) 27 rfl Tryz.underlying27 _ _ [] p rfl rfl byt_nil H.out (by have := HL.out; simp; omega) ?_; intro v1 w1 R1 C1 O1; have A1 := Lib.hid ((AccO.nil w).grow R1 C1 O1); have HC := Lib.hid (KCheck_c (H.out.below A1.out.bel) (by have := HL.out; omega)); clear R1 C1 O1)
    | ((with_reducible refine HC.out.mono ?_); rintro e w2 ⟨v2, rfl, A2⟩; have HA2 := Lib.hid A2; clear A2)
    | (at_builtin; refine wpList_byt _ rfl (.tmp 7) (.tmp 9) 27 rfl Tryz.underlying27 _ _ _ _ rfl rfl (A1.out.below HA2.out.bel).byt HA2.out.byt.i0 (by have := HL.out; simp [checkO_len]; omega) ?_; intro v3 w3 R3 C3 O3; have A3 := Lib.hid ((A1.out.below HA2.out.bel).grow R3 C3 O3); clear R3 C3 O3))
  go_ret
  exact ⟨_, rfl, by simpa using A3.out⟩
theorem KFrame_c {w : World} {v : Value} {p : Oct} (h : BytI w [] v p) (hl : p.length ≤ 200) :
    Calls Tryz.prog 63 #[v] w fun e w' => ∃ v', e = .returned v' ∧ ∃ ys, Acc w w' v' ys ∧ ys.length ≤ 4000 ∧ ys ≠ [] := by
  have HW := Lib.hid (KWhole_c h (by omega))
  obtain ⟨a, cap, rfl, hcap⟩ := h.shape
  clear h
  go_enter Tryz.func63, Tryz.ntmps63
  go_wp2_with (first
    | ((with_reducible refine HW.out.mono ?_); rintro e w1 ⟨v1, rfl, A1⟩; have B1 := Lib.hid A1.bel; have HB := Lib.hid (RBits_c A1.byt.i0 (by rw [List.length_append, checkO_len]; omega)); clear A1)
    | ((with_reducible refine HB.out.mono ?_); rintro e w2 ⟨v2, rfl, A2⟩; have B2 := Lib.hid (bl_then B1.out A2.bel); have hbl : (bitsOf (p ++ checkO p)).length ≤ 1616 := (by rw [bitsOf_len, List.length_append, checkO_len]; omega); have HP := Lib.hid (KPut_c A2.bits (by omega)); clear A2)
    | ((with_reducible refine HP.out.mono ?_); rintro e w3 ⟨v3, rfl, ys, A3, hy⟩; have A := Lib.hid (A3.base B2.out); have HY := Lib.hid (show ys.length ≤ 3300 by omega); clear A3 hy)
    | ((with_reducible refine (KFlag_c _).mono ?_); rintro e w4 ⟨v4, rfl, A4⟩; have G := Lib.hid A4; clear A4)
    | (at_builtin; refine wpList_bits _ rfl (.tmp 6) (.tmp 7) 67 rfl Tryz.underlying67 _ _ _ flagB rfl rfl (A.out.below G.out.bel).bits G.out.bits (by simp [flagB]) (by have := HY.out; simp [flagB]; omega) ?_; intro v5 w5 R5 C5 O5; have A5 := Lib.hid ((A.out.below G.out.bel).grow R5 C5 O5); clear R5 C5 O5))
  go_ret
  exact ⟨_, rfl, _, A5.out, by have := HY.out; simp [flagB]; omega, by simp [flagB]⟩
end
/-! ### Things that came, collected by a law; a list of octets that is an argument. -/
section
open Go Go.RowKit
set_option linter.unusedVariables false
set_option maxHeartbeats 20000000
set_option maxRecDepth 100000
structure AccG (w0 w : World) (v : Value) (l : List ((Int × Oct) × Int)) : Prop where
  bel : Below w0.heap.size w0 w
  rows : Cames w v l
  own : ∀ g ∈ own v, w0.heap.size ≤ g
theorem AccG.nil {w0 w : World} (h : Below w0.heap.size w0 w) : AccG w0 w (.slice none 0 0) [] := ⟨h, Cames.nil, by simp [Go.Proofs.YtdffinnnjcgfcaaGreatK.own, Value.ownBlock]⟩
theorem AccG.chg {w0 w w1 : World} {v : Value} {F : List Nat} {l : List ((Int × Oct) × Int)} (h : AccG w0 w v l) (G : Chg F w w1) (h0 : ∀ k ∈ F, w0.heap.size ≤ k) (hn : ∀ g ∈ Go.Proofs.YtdffinnnjcgfcaaGreatK.own v, g ∉ F) (h8 : Off w 5 F) : AccG w0 w1 v l := ⟨h.bel.trans (G.to_below h.bel.size h0), h.rows.far h8 hn G, h.own⟩
theorem AccG.below {w0 w w1 : World} {v : Value} {l : List ((Int × Oct) × Int)} (h : AccG w0 w v l) (hb : Below w.heap.size w w1) : AccG w0 w1 v l := h.chg (F := []) (.of_below hb _) (by simp) (by simp) (by simp [Off])
theorem AccG.typed {w0 w : World} {v : Value} {l : List ((Int × Oct) × Int)} (h : AccG w0 w v l) : Typed w (Go.Proofs.YtdffinnnjcgfcaaGreatK.own v) [121] := Typed.row h.rows.row.choose_spec
theorem AccG.far {w0 w w' : World} {v : Value} {l : List ((Int × Oct) × Int)} {A : List Nat} (h : AccG w0 w v l) (F : Far w0 w w' A) (hA : ∀ g ∈ Go.Proofs.YtdffinnnjcgfcaaGreatK.own v, g ∈ A) : AccG w0 w' v l := by
  obtain ⟨F, G, hA', h0, T⟩ := F
  exact h.chg G h0 (fun g hg => hA' g (hA g hg)) (T.off (by decide))
theorem cmCells_one : ∀ (ps : List (((Int × Oct) × Int) × Value)), (∀ p ∈ ps, ∃ a n c, p.2 = .slice a n c) → ∀ u ∈ cmCells ps, u.oneCell' = true
  | [], _, u, hu => by cases hu
  | (t, v) :: l, h, u, hu => by
    obtain ⟨a, n, c, e⟩ := h (t, v) (by simp)
    dsimp only at e
    subst e
    simp only [cmCells, List.mem_cons] at hu
    rcases hu with rfl | rfl | rfl | hu
    · rfl
    · rfl
    · rfl
    · exact cmCells_one l (fun p hp => h p (by simp [hp])) u hu
theorem run_came_append (w : World) (t ty : TypeId) (ht : Tryz.prog.underlying t = some (.slice 121)) {v u : Value} {l m : List ((Int × Oct) × Int)} (hv : Cames w v l) (hu : Cames w u m) (hl : l.length + m.length ≤ 1000000) :
    ∃ v' w', (Builtin.append_ #[t, t] ty #[v, u]).run Tryz.prog w = .ok v' w' ∧ Cames w' v' (l ++ m) ∧ Chg (own v) w w' ∧ ∀ b ∈ own v', b ∈ own v ∨ w.heap.size ≤ b := by
  obtain ⟨a0, c0, es, hcs⟩ := hv.shape
  by_cases h0 : m = []
  · subst h0
    obtain ⟨ax, cx, ex, _⟩ := hu.shape
    have hsrc : Src Tryz.prog 3 t u 0 [] w := by
      rw [ex]
      cases ax with
      | none => exact .ofNil w ht cx
      | some a => exact .ofSlice w ht a 0 cx [] (by simp) (by simp) (by simp)
    refine ⟨v, w, ?_, by simpa using hv, Chg.refl _ _, fun b hb => .inl hb⟩
    rw [es]
    exact run_append_nothing (P := Tryz.prog) w t t ty 121 Tryz.t121 ht rfl a0 l.length c0 hcs u hsrc
  · obtain ⟨ps, ep, rp, qp⟩ := hv
    obtain ⟨ps2, ep2, rp2, qp2⟩ := hu
    have hpos : 0 < m.length := List.length_pos_iff.2 h0
    rcases rp2.2 with ⟨_, h1⟩ | ⟨b, off, cap, cs, rfl, h1, h2, h3, h4, h5⟩
    · omega
    · have hone : ∀ p ∈ ps2, ∃ a n c, p.2 = .slice a n c := fun p hp => by
        obtain ⟨a, c, e, _⟩ := (qp2 p hp).1.shape
        exact ⟨a, _, c, e⟩
      obtain ⟨v', w', r1, r2, r3, r4⟩ := run_row_append (P := Tryz.prog) w t ty 121 Tryz.t121 (.agg #[.int .u8 0, .slice none 0 0, .int .i64 0]) 3 40 ht rfl rfl rfl rfl rfl (by decide) v l.length (cmCells ps) rp ⟨b, off, none⟩ m.length cap (cmCells ps2) rp2.1
        (fun j u hu => by rw [Addr.add_lit, h3.c]; exact h5 j u hu) (cmCells_one ps2 hone) hpos (by simp [maxLen]; omega) (by omega)
      have off8 : Off w 5 (own v) := fun k hk => by
        obtain ⟨cs, h1⟩ := rp.blk k hk
        exact ⟨cs, _, h1, by decide⟩
      refine ⟨v', w', r1, ⟨ps ++ ps2, by simp [ep, ep2], by rw [List.length_append, cmCells_append]; exact r2, fun q hq => ?_⟩, r3, r4⟩
      rcases List.mem_append.1 hq with hq | hq
      · exact (qp q hq).stay off8 r3
      · exact (qp2 q hq).stay off8 r3
theorem wpList_came {ops : Array Oper} {rest : List Oper} {o : Oper} {a : Act} {Q : Exit → Act → World → Prop} (w : World) (hgd : o.guard = none) (s x : Operand) (t : TypeId)
    (ho : o.op = .call { callee := .builtin .append, args := #[s, x], argTypes := #[t, t] }) (ht : Tryz.prog.underlying t = some (.slice 121))
    {w0 : World} {v u : Value} {l m : List ((Int × Oct) × Int)} (hs : a.eval s = v) (hx : a.eval x = u) (A : AccG w0 w v l) (hu : Cames w u m) (hl : l.length + m.length ≤ 1000000)
    (h : ∀ v' w', AccG w0 w' v' (l ++ m) → Chg (own v) w w' → (∀ b ∈ own v', b ∈ own v ∨ w.heap.size ≤ b) → wpList Tryz.prog ops Q rest (a.put o.dst v') w') : wpList Tryz.prog ops Q (o :: rest) a w := by
  refine wpList_plain hgd fun K hK => ?_
  obtain ⟨v', w', hrun, h2, h3, h4⟩ := run_came_append w t o.type ht A.rows hu hl
  unfold Oper.wp execOp
  simp only [ho, resolve, invoke, builtin, Sem.run_bind, Sem.run_pure, Result.andThen_ok, List.map_toArray, List.map_cons, List.map_nil, hs, hx, hrun]
  refine hK _ _ (h v' w' ⟨A.bel.trans (h3.to_below A.bel.size A.own), h2, fun k hk => ?_⟩ h3 h4)
  rcases h4 k hk with h9 | h9
  · exact A.own k h9
  · exact Nat.le_trans A.bel.size h9
theorem PoW.came {w0 w : World} {b : Nat} {p : Po} {A : List Nat} (h : PoW w0 w b p A) : Calls Tryz.prog 65 #[.pointer (some ⟨b, 0, none⟩)] w fun e w' => ∃ vg, e = .returned vg ∧ Cames w vg p.got ∧ w = w' := by
  obtain ⟨L, P, hL⟩ := h
  exact (PCame_c P).mono fun e w' ⟨he, hw⟩ => ⟨L.vg, he, P.gt, hw⟩
/-! ### What came is what an ear hears (plain data) -/
theorem Po.outs_ear : ∀ (k : Nat) (p : Po), (Po.outs k p).1.e = p.e ∧ (Po.outs k p).1.got = p.got ∧ (Po.outs k p).1.came = p.came
  | 0, _ => ⟨rfl, rfl, rfl⟩
  | k + 1, p => by
    have h : p.load.e = p.e ∧ p.load.got = p.got ∧ p.load.came = p.came := by unfold Po.load; split <;> exact ⟨rfl, rfl, rfl⟩
    obtain ⟨a, b, c⟩ := Po.outs_ear k p.outB.1
    exact ⟨a.trans h.1, b.trans h.2.1, c.trans h.2.2⟩
theorem Po.tick_ear (p : Po) (l : List Bool) : (p.tick l).1.got = (p.e.run p.came l).2 ∧ (p.tick l).1.e = (p.e.run p.came l).1 ∧ (p.tick l).1.came = p.came + l.length := by
  obtain ⟨a, b, c⟩ := Po.outs_ear 8 (l.foldl Po.inB p.first)
  obtain ⟨d, e, f⟩ := Er.run_ins l p.first
  exact ⟨(b.trans d).trans (List.nil_append _), a.trans e, c.trans f⟩
structure PoH (p : Po) (m : Nat) (t : List Bool) : Prop where
  ok : p.ok m
  e : p.e = (erz.run 0 t).1
  came : p.came = t.length
theorem PoH.new (s : Bool) : PoH (Po.new (usualP s)) 0 [] := ⟨newU_ok s, rfl, rfl⟩
theorem PoH.start {p : Po} {m : Nat} {t : List Bool} (h : PoH p m t) : PoH { p with x := (p.x.order 1 []).1 } (m + 1) t := by
  have h9 := h.ok.le (m := m + 1) (by omega)
  exact ⟨⟨St.ok_order h.ok.x 1 [], (St.few_order h.ok.few 1 []).le (by omega), h9.e, h9.gone, h9.came, h9.out, h9.sent, h9.got⟩, h.e, h.came⟩
theorem PoH.tick {p : Po} {m : Nat} {t : List Bool} (h : PoH p m t) (l : List Bool) (hl : l.length = 8) (ho : (l.foldl Po.inB p.first).x.h.oct) :
    PoH (p.tick l).1 (m + 64) (t ++ l) ∧ (erz.run 0 (t ++ l)).2 = (erz.run 0 t).2 ++ (p.tick l).1.got := by
  obtain ⟨a, b, c⟩ := Po.tick_ear p l
  refine ⟨⟨Po.ok_tick h.ok l hl ho, ?_, ?_⟩, ?_⟩
  · rw [b, Er.run_app, h.e, h.came, Int.zero_add]
  · rw [c, h.came, List.length_append]; omega
  · rw [a, Er.run_app, h.e, h.came, Int.zero_add]
/-! ### An argument that is a list of octets -/
def MsgI (w : World) (v : Value) (n : Nat) (X : Nat → Value) (Y : Nat → Oct) : Prop :=
  ∃ a cap, v = .slice a n cap ∧ n ≤ cap ∧ (n = 0 ∨ ∃ b off, a = some ⟨b, off, none⟩ ∧ ∀ i, i < n → BytI w [] (X i) (Y i) ∧ (Y i).length ≤ maxLen ∧ w.cell? ⟨b, off + i, none⟩ = some (X i))
end
/-! ### The walk of PostHears. -/
section
open Go Go.RowKit
set_option linter.unusedVariables false
set_option maxHeartbeats 40000000
set_option maxRecDepth 100000
theorem Cames.at {w : World} {a : Option Addr} {n c : Nat} {l : List ((Int × Oct) × Int)} (h : Cames w (.slice a n c) l) (j : Nat) (d : (Int × Oct) × Int) (hd : l[j]? = some d) : ∃ bl off u, a = some ⟨bl, off, none⟩ ∧ w.cell? ⟨bl, off + j * 3, none⟩ = some (.int .u8 d.1.1) ∧ w.cell? ⟨bl, off + j * 3 + 1, none⟩ = some u ∧ w.cell? ⟨bl, off + j * 3 + 2, none⟩ = some (.int .i64 d.2) ∧ BytV w u d.1.2 := by
  obtain ⟨ps, ep, r, q⟩ := h
  have hl := (List.getElem?_eq_some_iff.1 hd).1
  have hp : j < ps.length := by have := congrArg List.length ep; simp at this; omega
  have et : ps[j].1 = d := by
    have : (ps.map (·.1))[j]? = some d := by rw [ep]; exact hd
    simpa [List.getElem?_eq_getElem hp] using this
  obtain ⟨c0, c1, c2⟩ := cmCells_get ps j hp
  rcases r.2 with ⟨_, h0⟩ | ⟨bl, off, cap', cs, hv, h1, h2, h3, h4, h5⟩
  · omega
  · simp only [Value.slice.injEq] at hv
    refine ⟨bl, off, ps[j].2, hv.1, ?_, ?_, ?_, et ▸ q _ (List.getElem_mem hp)⟩
    · rw [Nat.mul_comm j 3, h3.c]; exact h5 _ _ (et ▸ c0)
    · rw [Nat.mul_comm j 3, h3.c, Nat.add_assoc]; exact h5 _ _ c1
    · rw [Nat.mul_comm j 3, h3.c, Nat.add_assoc]; exact h5 _ _ (et ▸ c2)
theorem wpList_bitsE {ops : Array Oper} {rest : List Oper} {o : Oper} {a : Act} {Q : Exit → Act → World → Prop} (w : World) (hgd : o.guard = none) (s x : Operand) (t : TypeId)
    (ho : o.op = .call { callee := .builtin .append, args := #[s, x], argTypes := #[t, t] }) (ht : Tryz.prog.underlying t = some (.slice 4))
    (v u : Value) (xs ys : List Bool) (hs : a.eval s = v) (hx : a.eval x = u) (hv : BitV w v xs) (hu : BitV w u ys) (hl : xs.length + ys.length ≤ 1000000)
    (h : ∀ v' w', BitV w' v' (xs ++ ys) → Chg (own v) w w' → (∀ b ∈ own v', b ∈ own v ∨ w.heap.size ≤ b) → wpList Tryz.prog ops Q rest (a.put o.dst v') w') : wpList Tryz.prog ops Q (o :: rest) a w := by
  by_cases h0 : ys = []
  · subst h0
    obtain ⟨a0, c0, es, hcs⟩ := hv.shape
    obtain ⟨ax, cx, ex, _⟩ := hu.shape
    have hsrc : Src Tryz.prog 1 t u 0 [] w := by
      rw [ex]
      cases ax with
      | none => exact .ofNil w ht cx
      | some a => exact .ofSlice w ht a 0 cx [] (by simp) (by simp) (by simp)
    have hrun : (Builtin.append_ #[t, t] o.type #[v, u]).run Tryz.prog w = .ok v w := by
      rw [es]
      exact run_append_nothing (P := Tryz.prog) w t t o.type 4 Tryz.t4 ht rfl a0 xs.length c0 hcs u hsrc
    refine wpList_plain hgd fun K hK => ?_
    unfold Oper.wp execOp
    simp only [ho, resolve, invoke, builtin, Sem.run_bind, Sem.run_pure, Result.andThen_ok, List.map_toArray, List.map_cons, List.map_nil, hs, hx, hrun]
    exact hK _ _ (h v w (by simpa using hv) (Chg.refl _ _) (fun b hb => .inl hb))
  · exact wpList_bits w hgd s x t ho ht v u xs ys hs hx hv hu h0 hl h
def need8 : Value → Nat
  | .slice _ n _ => (8 - n % 8) % 8
  | _ => 0
theorem PostHears_w (v0 : Value) (n : Nat) (X : Nat → Value) (Y : Nat → Oct) (v1 : Value) (xs : Oct) (st : Bool) (W : World) (h0 : MsgI W v0 n X Y) (h1 : BytI W [] v1 xs) (_l1 : xs.length ≤ maxLen) :
    Calls Tryz.prog 21 #[v0, v1, .bool st] W fun e W' => e = .returned (.bool true) ∧ Below W.heap.size W W' := by
  obtain ⟨a0, c0, rfl, hc0, hm⟩ := h0
  obtain ⟨a1, c1, rfl, hc1⟩ := h1.shape
  obtain ⟨n1, hn1⟩ : ∃ n, xs.length = n := ⟨_, rfl⟩
  have HM := Lib.hid hm
  have HJ := Lib.hid h1
  rw [hn1] at HJ hc1 ⊢
  have HN1 := Lib.hid hn1
  clear hm h1 _l1 hn1
  have AW := Lib.hid (PAwake_c W)
  have AW2 := Lib.hid (fun w => PAwake_c w)
  by_cases hx : 8 < n
  · have hx' : (8 : Int) < n := by omega
    go_enter Tryz.func21, Tryz.ntmps21
    go_wp2_with (first
      | ((with_reducible refine AW.out.mono ?_); rintro e w2 ⟨rfl, b2⟩; have B2 := Lib.hid b2; clear b2)
      | ((with_reducible refine (AW2.out _).mono ?_); rintro e w3 ⟨rfl, b3⟩; have B3 := Lib.hid (bl_then B2.out b3); clear b3))
    go_ret
    exact ⟨rfl, B3.out⟩
  have hx' : ¬ (8 : Int) < n := by omega
  by_cases hy : 100 < n1
  · have hy' : (100 : Int) < n1 := by omega
    go_enter Tryz.func21, Tryz.ntmps21
    go_wp2_with (first
      | ((with_reducible refine AW.out.mono ?_); rintro e w2 ⟨rfl, b2⟩; have B2 := Lib.hid b2; clear b2)
      | ((with_reducible refine (AW2.out _).mono ?_); rintro e w3 ⟨rfl, b3⟩; have B3 := Lib.hid (bl_then B2.out b3); clear b3))
    go_ret
    exact ⟨rfl, B3.out⟩
  have hy' : ¬ (100 : Int) < n1 := by omega
  have HU := Lib.hid (fun w => Usual_c false w)
  have HNW := Lib.hid (fun w => PNewU_c false w)
  have hq : ∃ m : Nat, (n : Int) / 2 = m ∧ m ≤ n := ⟨n / 2, by omega, by omega⟩
  obtain ⟨md, hmd, hmn⟩ := hq
  go_enter Tryz.func21, Tryz.ntmps21
  go_upto_if 36 with (first
    | ((with_reducible refine AW.out.mono ?_); rintro e w2 ⟨rfl, b2⟩; have B2 := Lib.hid b2; clear b2)
    | ((with_reducible refine (HU.out _).mono ?_); rintro e w3 ⟨rfl, b3⟩; have B3 := Lib.hid (bl_then B2.out b3); clear b3)
    | ((with_reducible refine (HNW.out _).mono ?_); rintro e w4 ⟨b, rfl, P4, b4⟩; have HP4 := Lib.hid P4; have HB4 := Lib.hid b4; have B4 := Lib.hid (bl_then B3.out b4); clear P4 b4))
  go_cut [] (fun wx => ∃ p, PoH p 1 [] ∧ Below w3.heap.size w3 wx ∧ PoW w3 wx b p [])
  case first =>
    cases st with
    | true =>
      have HO := Lib.hid (HP4.out.order HB4.out.size (by simp) (newU_ok false).x ((newU_ok false).few.le (by omega)) 1 (byt_nil (w := w4)).i0 (by simp))
      go_wp2_with (first
        | ((with_reducible refine HO.out.mono ?_); rintro e w6 ⟨rfl, P6, F6⟩; have HP6 := Lib.hid P6; have HF6 := Lib.hid F6; clear P6 F6))
      go_meet
      case rel => exact ⟨_, (PoH.new false).start, HF6.out.bel HB4.out, HP6.out⟩
    | false =>
      go_wp2
      go_meet
      case rel => exact ⟨_, ⟨(newU_ok false).le (by omega), rfl, rfl⟩, HB4.out, HP4.out⟩
  case rest =>
    obtain ⟨p0, R0, B0, P0⟩ := hcut
    have HR0 := Lib.hid R0
    have HB0 := Lib.hid B0
    have HP0 := Lib.hid P0
    clear R0 B0 P0
    go_wp2_with (first
      | ((with_reducible refine (KFlag_c _).mono ?_); rintro e w5 ⟨v5, rfl, A5⟩; have HA5 := Lib.hid (show Acc w3 w5 v5 flagB from ⟨bl_then HB0.out A5.bel, A5.bits, fun g hg => Nat.le_trans HB0.out.size (A5.own g hg)⟩); have HP5 := Lib.hid (HP0.out.far (F := []) (A' := own v5) (.of_below A5.bel _) (by simp) (by simp [Off]) (fun g hg => .inr (A5.own g hg))); clear A5))
    go_loopw [9, 10] (fun o i wr => ∃ (k : Nat) (t : List Bool), k ≤ n ∧ i = .int .i64 k ∧ t.length ≤ 8 + 4900 * k ∧ Acc w3 wr o t ∧ PoW w3 wr b p0 (own o)) (fun _ i _ => n - (intOf i).toNat)
    case atStart => exact ⟨0, flagB, by omega, rfl, by decide, HA5.out, HP5.out⟩
    case round =>
      obtain ⟨k, t, hk, rfl, htl, A, P⟩ := hrel
      have HA := Lib.hid A
      have HP := Lib.hid P
      have BW := Lib.hid (bl_then B3.out A.bel)
      clear A P
      by_cases hlt : k < n
      · have hlt' : (k : Int) < n := by omega
        rcases HM.out with hz | ⟨bl, off, rfl, hm⟩
        · exact absurd hz (by omega)
        obtain ⟨hI, hle, hcell⟩ := hm k hlt
        obtain ⟨ai, ci, eX, _⟩ := hI.shape
        obtain ⟨ln, hln⟩ : ∃ ln, (Y k).length = ln := ⟨_, rfl⟩
        rw [hln] at eX
        rw [eX] at hcell hI
        have hc := below_cell BW.out hcell
        have HI := Lib.hid hI
        have HLN := Lib.hid hln
        clear hm hI hcell eX hln hle
        by_cases h50 : 50 < ln
        · have h50' : (50 : Int) < ln := by omega
          go_wp2
          go_ret
          exact ⟨rfl, BW.out⟩
        · have h50' : ¬ (50 : Int) < ln := by omega
          have HF := Lib.hid (KFrame_c (HI.out.below BW.out) (by rw [HLN.out]; omega))
          have hll : t.length ≤ 50000 := by omega
          go_upto_region 13 with (first
            | ((with_reducible refine HF.out.mono ?_); rintro e w6 ⟨v6, rfl, ys, A6, hl6, hn6⟩; have HA6 := Lib.hid A6; have HY6 := Lib.hid hl6; have HN6 := Lib.hid hn6; clear A6 hl6 hn6)
            | (at_builtin; refine wpList_bits _ rfl (.tmp 53) (.tmp 58) 67 rfl Tryz.underlying67 _ _ t ys rfl rfl (HA.out.below HA6.out.bel).bits HA6.out.bits HN6.out (by have := HY6.out; omega) ?_; intro v7 w7 R7 C7 O7; have A7 := Lib.hid ((HA.out.below HA6.out.bel).grow R7 C7 O7); have P7 := Lib.hid ((HP.out.below HA6.out.bel).far (A' := own v7) C7 (fun k hk => .inl hk) (off_bool (HA.out.below HA6.out.bel).bits) O7); clear R7 C7 O7))
          have HL7 := Lib.hid (show (t ++ ys).length ≤ 4008 + 4900 * k by have := HY6.out; rw [List.length_append]; omega)
          clear HA HP
          generalize t ++ ys = t7 at A7 HL7
          by_cases hmid : k = md
          · have ck : ((k : Int) == (md : Int)) = true := by rw [beq_iff_eq]; omega
            have HB := Lib.hid (RBits_c (HJ.out.below (bl_then B3.out A7.out.bel)) (by rw [HN1.out]; omega))
            have hjl : (bitsOf xs).length ≤ 800 := by rw [bitsOf_len, HN1.out]; omega
            clear hmid
            go_wp2_with (first
              | ((with_reducible refine HB.out.mono ?_); rintro e w8 ⟨v8, rfl, A8⟩; have HA8 := Lib.hid A8; clear A8)
              | (at_builtin; refine wpList_bitsE _ rfl (.tmp 65) (.tmp 67) 67 rfl Tryz.underlying67 _ _ t7 (bitsOf xs) rfl rfl (A7.out.below HA8.out.bel).bits HA8.out.bits (by have := HL7.out; omega) ?_; intro v9 w9 R9 C9 O9; have A9 := Lib.hid ((A7.out.below HA8.out.bel).grow R9 C9 O9); have P9 := Lib.hid ((P7.out.below HA8.out.bel).far (A' := own v9) C9 (fun k hk => .inl hk) (off_bool (A7.out.below HA8.out.bel).bits) O9); clear R9 C9 O9)
              | ((with_reducible refine (KFlag_c _).mono ?_); rintro e w10 ⟨v10, rfl, A10⟩; have HA10 := Lib.hid A10; clear A10)
              | (at_builtin; refine wpList_bits _ rfl (.tmp 69) (.tmp 70) 67 rfl Tryz.underlying67 _ _ _ flagB rfl rfl (A9.out.below HA10.out.bel).bits HA10.out.bits (by simp [flagB]) (by have := HL7.out; simp [flagB]; omega) ?_; intro v11 w11 R11 C11 O11; have A11 := Lib.hid ((A9.out.below HA10.out.bel).grow R11 C11 O11); have P11 := Lib.hid ((P9.out.below HA10.out.bel).far (A' := own v11) C11 (fun k hk => .inl hk) (off_bool (A9.out.below HA10.out.bel).bits) O11); clear R11 C11 O11))
            go_roundw
            case rel => exact ⟨k + 1, _, by omega, by go_num, by have := HL7.out; simp [flagB]; omega, A11.out, P11.out⟩
            case measure => simp [intOf]; omega
          · have ck : ((k : Int) == (md : Int)) = false := beq_eq_false_iff_ne.2 (by omega)
            clear hmid
            go_wp2
            go_roundw
            case rel => exact ⟨k + 1, t7, by omega, by go_num, by have := HL7.out; omega, A7.out, P7.out⟩
            case measure => simp [intOf]; omega
      · obtain rfl : k = n := by omega
        have kk : ¬ (k : Int) < k := by omega
        have htl2 : t.length ≤ 39300 := by omega
        clear htl
        go_wp2
        go_loopw [9] (fun o wx => ∃ t : List Bool, t.length + (8 - t.length % 8) % 8 ≤ 39400 ∧ Acc w3 wx o t ∧ PoW w3 wx b p0 (own o)) (fun o _ => need8 o)
        case atStart => exact ⟨t, by omega, HA.out, HP.out⟩
        case round =>
          clear HA HP BW htl2
          obtain ⟨t, htl, A, P⟩ := hrel
          obtain ⟨T, hT⟩ : ∃ T, t.length = T := ⟨_, rfl⟩
          obtain ⟨av, cv, e, hcv⟩ := A.bits.shape
          rw [hT] at e hcv htl
          subst e
          have HA := Lib.hid A
          have HP := Lib.hid P
          have HT := Lib.hid hT
          clear A P hT
          by_cases h8 : T % 8 = 0
          · have c8 : ((T : Int) % 8 != 0) = false := by
              have : (T : Int) % 8 = 0 := by omega
              simp [this]
            go_wp2
            go_loopw [11, 12] (fun o i wx => ∃ (k : Nat) (p : Po), 8 * k ≤ T ∧ i = .int .i64 ((8 * k : Nat) : Int) ∧ PoH p (65 * k + 1) (t.take (8 * k)) ∧ Acc w3 wx (.slice av T cv) t ∧ AccG w3 wx o (erz.run 0 (t.take (8 * k))).2 ∧ PoW w3 wx b p (own (.slice av T cv) ++ own o)) (fun _ i _ => T - (intOf i).toNat)
            case atStart => exact ⟨0, p0, by omega, rfl, HR0.out, HA.out, AccG.nil HA.out.bel, HP.out.less (fun g hg => .inl (by simpa [own, Value.ownBlock] using hg))⟩
            case round =>
              obtain ⟨k, p, hk, rfl, R, A, G, P⟩ := hrel
              clear HA HP
              obtain ⟨I, hI⟩ : ∃ I, 8 * k = I := ⟨_, rfl⟩
              rw [hI] at hk R G ⊢
              have HI := Lib.hid hI
              have HR := Lib.hid R
              have HA := Lib.hid A
              have HG := Lib.hid G
              have HP := Lib.hid P
              clear R A G P hI
              by_cases hlt : I < T
              · have hlt' : (I : Int) < T := by omega
                have i8 : I + 8 ≤ T := by have := HI.out; omega
                obtain ⟨l8, hl8⟩ : ∃ l8, (t.drop I).take 8 = l8 := ⟨_, rfl⟩
                have l8l : l8.length = 8 := by rw [← hl8, List.length_take, List.length_drop, HT.out]; omega
                have HL8 := Lib.hid hl8
                clear hl8
                have B5 := Lib.hid (bl_alloc (bl_refl wr) (.cells (bits8c []) 98))
                have N5 := Lib.hid (Blk.new wr (bits8c []) 98)
                have P5 := Lib.hid (HP.out.far (F := []) (A' := wr.heap.size :: (own (.slice av T cv) ++ own u11)) (.of_below B5.out _) (by simp) (by simp [Off]) (fun g hg => by
                  rcases List.mem_cons.1 hg with rfl | hg
                  · exact .inr (Nat.le_refl _)
                  · exact .inl hg))
                have A5 := Lib.hid (HA.out.below B5.out)
                have G5 := Lib.hid (HG.out.below B5.out)
                have hg3 : w3.heap.size ≤ wr.heap.size := HA.out.bel.size
                obtain ⟨g, hg⟩ : ∃ g, wr.heap.size = g := ⟨_, rfl⟩
                go_upto_region 23 with fail
                have N5' : Blk (wr.alloc (.cells (bits8c []) 98)) g (bits8c []) 98 := hg ▸ N5.out
                change Code.wp _ _ _ _ (wr.alloc (.cells (bits8c []) 98))
                have hgt : ∀ k ∈ own (.slice av T cv), k ∉ [g] := fun k hk hk2 => by
                  obtain rfl : k = g := by simpa using hk2
                  have := Row.lt HA.out.bits k hk
                  omega
                have hgg : ∀ k ∈ own u11, k ∉ [g] := fun k hk hk2 => by
                  obtain rfl : k = g := by simpa using hk2
                  obtain ⟨cs, t, h1, _⟩ := HG.out.typed k hk
                  have := h1.lt
                  omega
                generalize wr.alloc (.cells (bits8c []) 98) = w5 at B5 P5 A5 G5 N5' ⊢
                rw [hg] at P5 hg3
                clear N5 HA HG HP
                have HGT := Lib.hid hgt
                have HGG := Lib.hid hgg
                clear hgt hgg
                go_wp2
                go_loopw [14] (fun j wx => ∃ z : Nat, z ≤ 8 ∧ j = .int .i64 z ∧ Chg [g] w5 wx ∧ Blk wx g (bits8c (l8.take z)) 98) (fun j _ => 8 - (intOf j).toNat)
                case atStart => exact ⟨0, by omega, rfl, Chg.refl _ _, N5'⟩
                case round =>
                  obtain ⟨z, hz, rfl, GG, S⟩ := hrel
                  have HGZ := Lib.hid GG
                  have HS := Lib.hid S
                  have sf := S.f
                  have hlz : (l8.take z).length = z := by rw [List.length_take, l8l]; omega
                  have AZ := Lib.hid (A5.out.chg GG (fun k hk => by
                    obtain rfl : k = g := by simpa using hk
                    exact hg3) HGT.out)
                  clear GG
                  by_cases hz8 : z < 8
                  · have hz8' : (z : Int) < 8 := by omega
                    obtain ⟨bb, hbb⟩ : ∃ bb, t[I + z]? = some bb := ⟨_, List.getElem?_eq_getElem (by rw [HT.out]; omega)⟩
                    obtain ⟨bl, off, rfl, hcell⟩ := AZ.out.bits.at (I + z) bb hbb
                    have hl8z : l8[z]? = some bb := by rw [← HL8.out, List.getElem?_take, if_pos hz8, List.getElem?_drop]; exact hbb
                    have h9 := bits8c_at (l8.take z) (by rw [hlz]; exact hz8)
                    rw [hlz] at h9
                    have hat := (S.c z).trans h9
                    have iz : (I : Int) + (z : Int) < T := by omega
                    have iz0 : (0 : Int) ≤ (I : Int) + (z : Int) := by omega
                    have HSET := Lib.hid (show (bits8c (l8.take z)).setIfInBounds z (.bool bb) = bits8c (l8.take (z + 1)) by rw [List.take_add_one, hl8z]; have h8 := bits8c_set (l8.take z) bb (by rw [hlz]; exact hz8); rw [hlz] at h8; exact h8)
                    clear S hlz h9 hl8z hbb
                    go_wp2
                    go_roundw
                    case rel => exact ⟨z + 1, by omega, by go_num, HGZ.out.set (.inl (by simp)) _, (HS.out.set z _).as HSET.out⟩
                    case measure => simp [intOf]; omega
                  · have hz9 : z = 8 := by omega
                    have e8 : (z : Int) = 8 := by omega
                    rw [e8]
                    subst hz9
                    clear e8 hlz sf
                    have hb8 : l8.take 8 = l8 := List.take_of_length_le (by omega)
                    rw [hb8] at S
                    obtain ⟨x0, x1, x2, x3, x4, x5, x6, x7, hl8e⟩ := eightB l8l
                    subst hl8e
                    have S8 : Blk wr g #[.bool x0, .bool x1, .bool x2, .bool x3, .bool x4, .bool x5, .bool x6, .bool x7] 98 := S
                    have s8c := S8.c
                    have offg : Off w5 5 [g] := fun k hk => by
                      obtain rfl : k = g := by simpa using hk
                      exact ⟨_, _, N5', by decide⟩
                    have G8 := Lib.hid (G5.out.chg HGZ.out (fun k hk => by
                      obtain rfl : k = g := by simpa using hk
                      exact hg3) HGG.out offg)
                    have P8 := Lib.hid (P5.out.far HGZ.out (fun k hk => .inl (by
                      obtain rfl : k = g := by simpa using hk
                      simp)) offg (A' := own (.slice av T cv) ++ own u11) (fun k hk => .inl (List.mem_cons_of_mem _ hk)))
                    have hk5 : 65 * k + 1 ≤ 700000 := by have := HI.out; omega
                    have HTK := Lib.hid (P8.out.tick AZ.out.bel.size (fun k hk => by
                      rcases List.mem_append.1 hk with hk | hk
                      · exact Row.lt AZ.out.bits k hk
                      · obtain ⟨cs, t, h1, _⟩ := G8.out.typed k hk
                        exact h1.lt) HR.out.ok hk5 x0 x1 x2 x3 x4 x5 x6 x7)
                    have hgl : (erz.run 0 (t.take I)).2.length ≤ 40000 := by
                      have h9 := Er.evs_len (t.take I) erz 0
                      have : (t.take I).length ≤ T := by rw [List.length_take, HT.out]; omega
                      omega
                    clear S S8 hb8 offg
                    go_wp2_with (first
                      | ((with_reducible refine HTK.out.mono ?_); rintro e w9 ⟨⟨d0, d1, d2, d3, d4, d5, d6, d7, hd, rfl⟩, P9, F9, ho⟩; have HP9 := Lib.hid P9; have HO := Lib.hid ho; have A9 := Lib.hid (AZ.out.far F9 (fun g hg => List.mem_append_left _ hg)); have G9 := Lib.hid (G8.out.far F9 (fun g hg => List.mem_append_right _ hg)); have HC := Lib.hid P9.came; clear hd P9 F9 ho)
                      | ((with_reducible refine HC.out.mono ?_); rintro e w10 ⟨vg, rfl, C10, rfl⟩; have HC10 := Lib.hid C10; clear C10)
                      | (at_builtin; refine wpList_came _ rfl (.tmp 100) (.tmp 102) 117 rfl Tryz.underlying117 rfl rfl G9.out HC10.out (by have h9 := (Po.ok_tick HR.out.ok [x0, x1, x2, x3, x4, x5, x6, x7] rfl HO.out).got; have := HI.out; omega) ?_; intro v11 w11 G11 C11 O11; have HG11 := Lib.hid G11; have A11 := Lib.hid (A9.out.chg C11 G9.out.own (A9.out.typed.disj G9.out.typed (by decide))); have P11 := Lib.hid (HP9.out.far (A' := own (.slice av T cv) ++ own v11) C11 (fun k hk => .inl (List.mem_append_right _ hk)) (G9.out.typed.off (by decide)) (fun g hg => by
                          rcases List.mem_append.1 hg with hg | hg
                          · exact .inl (List.mem_append_left _ hg)
                          · exact (O11 g hg).imp (fun h => List.mem_append_right _ h) id)); clear G11 C11 O11))
                    go_roundw
                    case rel =>
                      obtain ⟨h9, h8'⟩ := HR.out.tick [x0, x1, x2, x3, x4, x5, x6, x7] rfl HO.out
                      have et : t.take I ++ [x0, x1, x2, x3, x4, x5, x6, x7] = t.take (8 * (k + 1)) := by
                        have h7 := HI.out
                        rw [show 8 * (k + 1) = I + 8 by omega, List.take_add, HL8.out]
                      rw [et] at h9 h8'
                      rw [show 65 * k + 1 + 64 = 65 * (k + 1) by omega] at h9
                      exact ⟨k + 1, _, by have := HI.out; omega, by have := HI.out; go_num, ⟨h9.ok.le (by omega), h9.e, h9.came⟩, A11.out, by rw [h8']; exact HG11.out, P11.out⟩
                    case measure => simp [intOf]; omega
              · have hIT : I = T := by have := HI.out; omega
                have kk2 : ¬ (I : Int) < T := by omega
                have htk : t.take I = t := List.take_of_length_le (by rw [HT.out]; omega)
                rw [htk] at HG
                have HH := Lib.hid (KHear_c HA.out.bits (by rw [HT.out]; omega))
                have BW := Lib.hid (bl_then B3.out HA.out.bel)
                have hne9 : (erz.run 0 t).2.length ≤ 100000 := by have h9 := Er.evs_len t erz 0; have := HT.out; omega
                generalize erz.run 0 t = r at HG HH hne9
                obtain ⟨re, evs⟩ := r
                dsimp only at HG HH hne9
                generalize re.found = fd at HH
                obtain ⟨ne, hne⟩ : ∃ ne, evs.length = ne := ⟨_, rfl⟩
                obtain ⟨ag, cg, eg, _⟩ := HG.out.rows.shape
                rw [hne] at eg hne9
                subst eg
                have HNE := Lib.hid hne
                clear htk HP
                go_wp2_with (first
                  | ((with_reducible refine HH.out.mono ?_); rintro e w5 ⟨vl, rfl, AH⟩; (obtain ⟨ah, ch, ev, _⟩ := AH.rows.shape); (rw [hne] at ev); subst ev; have HAH := Lib.hid AH; clear AH))
                have HG5 := Lib.hid (HG.out.rows.far (F := []) (by simp [Off]) (by simp) (.of_below HAH.out.bel []))
                have BE := Lib.hid (bl_then BW.out HAH.out.bel)
                clear HG HA
                go_loopw [17] (fun i wx => ∃ j : Nat, j ≤ ne ∧ i = .int .i64 j ∧ Below w5.heap.size w5 wx) (fun i _ => ne - (intOf i).toNat)
                case atStart => exact ⟨0, by omega, rfl, bl_refl w5⟩
                case round =>
                  obtain ⟨j, hj, rfl, B⟩ := hrel
                  have HBJ := Lib.hid B
                  clear B
                  by_cases hjn : j < ne
                  · have hjn' : (j : Int) < ne := by omega
                    obtain ⟨d, hd⟩ : ∃ d, evs[j]? = some d := ⟨_, List.getElem?_eq_getElem (by rw [HNE.out]; exact hjn)⟩
                    obtain ⟨b1, o1, u1, rfl, k10, k11, k12, y1⟩ := HG5.out.at j d hd
                    obtain ⟨b3, o3, u3, rfl, k30, k31, k32, y3⟩ := HAH.out.rows.at j d hd
                    have h10 := below_cell HBJ.out k10
                    have h11 := below_cell HBJ.out k11
                    have h12 := below_cell HBJ.out k12
                    have h30 := below_cell HBJ.out k30
                    have h31 := below_cell HBJ.out k31
                    have h32 := below_cell HBJ.out k32
                    have Y1 := Lib.hid (Byt.below y1 HBJ.out)
                    have Y3 := Lib.hid (Byt.below y3 HBJ.out)
                    obtain ⟨q1, c91, rfl, _⟩ := y1.1.shape
                    obtain ⟨q3, c93, rfl, _⟩ := y3.1.shape
                    have up_10 := fun g : Up wr => below_cell g.ok h10
                    have up_11 := fun g : Up wr => below_cell g.ok h11
                    have up_12 := fun g : Up wr => below_cell g.ok h12
                    have up_30 := fun g : Up wr => below_cell g.ok h30
                    have up_31 := fun g : Up wr => below_cell g.ok h31
                    have up_32 := fun g : Up wr => below_cell g.ok h32
                    have up_c1 := fun g : Up wr => conv_back (Byt.below Y1.out g.ok)
                    have up_c3 := fun g : Up wr => conv_back (Byt.below Y3.out g.ok)
                    generalize strOfNums d.1.2 = str at up_c1 up_c3
                    clear hd k10 k11 k12 k30 k31 k32 y1 y3
                    go_upto_region 35 with fail
                    refine wp_region_up (by kernel_rfl) (by kernel_rfl) ?_
                    repeat (go_big_quiet_step (fail))
                    refine wpQuiet_nil ?_
                    clear up_10 up_11 up_12 up_30 up_31 up_32 up_c1 up_c3
                    refine up_elim (fun w8 hb8 => ?_)
                    go_wp2
                    go_roundw
                    case rel => exact ⟨j + 1, by omega, by go_num, bl_then HBJ.out hb8⟩
                    case measure => simp [intOf]; omega
                  · obtain rfl : j = ne := by omega
                    have jj : ¬ (j : Int) < j := by omega
                    go_wp2
                    go_ret
                    exact ⟨rfl, bl_then BE.out HBJ.out⟩
          · have c8 : ((T : Int) % 8 != 0) = true := by
              have : (T : Int) % 8 ≠ 0 := by omega
              simp [this]
            have hll : t.length ≤ 1000000 := by rw [HT.out]; omega
            go_wp2_with (first
              | (at_builtin; refine wpList_bit _ rfl (.tmp 76) (.tmp 77) 67 rfl Tryz.underlying67 _ t rfl (HA.out.bits.below (bl_alloc (bl_refl wr) _)) wr.heap.size false rfl (Blk.new wr _ _) hll ?_; intro v6 w6 R6 C6 O6; have A6 := Lib.hid ((HA.out.below (bl_alloc (bl_refl wr) _)).grow R6 C6 O6); have P6 := Lib.hid ((HP.out.below (bl_alloc (bl_refl wr) _)).far (A' := own v6) C6 (fun k hk => .inl hk) (off_bool (HA.out.below (bl_alloc (bl_refl wr) _)).bits) O6); (obtain ⟨a6, c6, ev6, _⟩ := R6.shape); (rw [List.length_append, List.length_singleton, HT.out] at ev6); subst ev6; clear R6 C6 O6))
            go_roundw
            case rel => exact ⟨t ++ [false], by rw [List.length_append, List.length_singleton, HT.out]; omega, A6.out, P6.out⟩
            case measure => simp only [need8]; omega
end
end Go.Proofs.YtdffinnnjcgfcaaGreatK
