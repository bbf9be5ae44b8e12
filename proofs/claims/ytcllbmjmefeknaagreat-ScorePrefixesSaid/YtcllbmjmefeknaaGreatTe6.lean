/- The walk of Post.Tick. -/
import Derived.Test.YtcllbmjmefeknaaGreatTe1
namespace Go.Proofs.YtcllbmjmefeknaaGreatK
open Go Go.RowKit
set_option linter.unusedVariables false
set_option maxHeartbeats 20000000
set_option maxRecDepth 100000
theorem PoAt.octs {w : World} {b : Nat} {p : Po} {L : PoL} (h : PoAt w b p L) : p.x.h.oct := by
  intro q hq
  have hs := h.lk.ho.sent
  have hn := h.lk.ho.next
  obtain ⟨vs, r1, f1⟩ := hs
  obtain ⟨vs2, r2, f2⟩ := hn
  rcases List.mem_append.1 hq with hq | hq
  · obtain ⟨j, hj⟩ := List.mem_iff_getElem?.1 hq
    obtain ⟨u, _, hb⟩ := f1 j q hj
    exact hb.2
  · obtain ⟨j, hj⟩ := List.mem_iff_getElem?.1 hq
    obtain ⟨u, _, hb⟩ := f2 j q hj
    exact hb.2
theorem got_end {w W w6 : World} {b : Nat} {p : Po} {L : PoL} {ps : List (((Int × Oct) × Int) × Value)} {v6 vp : Value} {d : Int × Oct} (h : PoAt w b p L) (Bl : Below w.heap.size w W)
    (ep : ps.map (·.1) = p.got) (qp : ∀ p ∈ ps, BytV w p.2 p.1.1.2) (hp : BytV w vp d.2) (R6 : Row w6 179 3 v6 (p.got.length + 1) (cmCells ps ++ [.int .u8 d.1, vp, .int .i64 p.came])) (G6 : Chg (own L.vg) W w6) (O6 : ∀ k ∈ own v6, k ∈ own L.vg ∨ W.heap.size ≤ k) :
    PoTo w (w6.setCell ⟨b, 11, none⟩ v6) b { p with got := p.got ++ [(d, p.came)] } L := by
  obtain ⟨xs, rs⟩ := h.gt.row
  have T : Typed w (b :: own L.vg) ([154] ++ [179]) := (Typed.one h.blk).app (Typed.row rs)
  have G : Chg (b :: own L.vg) w (w6.setCell ⟨b, 11, none⟩ v6) := (((Chg.of_below Bl _)).trans G6 (fun k hk => .inl (List.mem_cons_of_mem _ hk))).set (.inl (by simp)) _
  have b6 := (h.blk.below Bl).keep ((Typed.row (rs.below Bl)).off (by decide)) G6
  refine PoTo.byP h (out := p.out) (nx := p.nx) (gone := p.gone) (came := p.came) (sent := p.sent) (vo := L.vo) (vn := L.vn) (vs := L.vs) (vg := v6) ((b6.set 11 v6).as (by simp [Po.cells])) G (T.more (by simp)) (fun k hk => ?_) (Row.keep h.out (T.off (by decide)) G) (h.nx.stay (T.off (by decide)) G) h.nn (h.sn.keep (T.off (by decide)) (T.off (by decide)) G) ?_ (fun k hk => .inl hk) (fun k hk => .inl hk) (fun k hk => ?_)
  · rw [mem6]
    rcases List.mem_cons.1 hk with hk | hk
    · exact .inl hk
    · exact .inr (.inr (.inr (.inr (.inr hk))))
  · refine ⟨ps ++ [((d, p.came), vp)], by simp [ep], ?_, fun q hq => ?_⟩
    · have := R6.chg (chg1 w6 b 11 v6) (fun k hk hb => by
        obtain ⟨cs, h1⟩ := R6.blk k hk
        obtain rfl : k = b := by simpa using hb
        exact b6.ne h1 (by decide) rfl)
      simpa [cmCells_append, cmCells] using this
    · rcases List.mem_append.1 hq with hq | hq
      · exact (qp q hq).stay (T.off (by decide)) G
      · obtain rfl : q = ((d, p.came), vp) := by simpa using hq
        exact hp.stay (T.off (by decide)) G
  · rcases O6 k hk with h9 | h9
    · exact .inl h9
    · exact .inr (Nat.le_trans Bl.size h9)
theorem Po.outs_snoc : ∀ (k : Nat) (p : Po), Po.outs (k + 1) p = ((Po.outs k p).1.outB.1, (Po.outs k p).2 ++ [(Po.outs k p).1.outB.2])
  | 0, p => rfl
  | k + 1, p => by
    have ih := Po.outs_snoc k p.outB.1
    show ((Po.outs (k + 1) p.outB.1).1, p.outB.2 :: (Po.outs (k + 1) p.outB.1).2) = _
    rw [ih]
    rfl
theorem Po.outs_len : ∀ (k : Nat) (p : Po), (Po.outs k p).2.length = k
  | 0, _ => rfl
  | k + 1, p => by rw [Po.outs_snoc]; simp [Po.outs_len k p]
/-- Eight cells of bits, of which the first ones were written. -/
def bits8c (l : List Bool) : Array Value := ((l ++ List.replicate (8 - l.length) false).map Value.bool).toArray
theorem bits8c_set (l : List Bool) (b : Bool) (h : l.length < 8) : (bits8c l).setIfInBounds l.length (.bool b) = bits8c (l ++ [b]) := by
  unfold bits8c
  have e : 8 - l.length = (8 - (l ++ [b]).length) + 1 := by simp; omega
  rw [e, List.replicate_succ]
  simp [List.setIfInBounds_toArray]
theorem Po.ok_take {p : Po} {n : Nat} (h : p.ok n) (l : List Bool) (k : Nat) (hl : l.length = 8) : ((l.take k).foldl Po.inB p.first).ok (n + 56) := by
  have h1 : (l.take k).length ≤ 8 := by rw [List.length_take]; omega
  exact (Po.ok_ins (l.take k) (Po.ok_first h)).le (by omega)
theorem Po.inB_none {p : Po} {on : Bool} {e : Er} (h : p.e.bit on = (e, none)) : p.inB on = { p with came := p.came + 1, e := e } := by unfold Po.inB; rw [h]
theorem Po.inB_some {p : Po} {on : Bool} {e : Er} {d : Int × Oct} (h : p.e.bit on = (e, some d)) : p.inB on = { p with came := p.came + 1, e := e, got := p.got ++ [(d, p.came + 1)], x := Po.hears p.x d } := by unfold Po.inB; rw [h]
theorem foldl_take {α β : Type} (f : β → α → β) (l : List α) (x : β) (k : Nat) (a : α) (h : l[k]? = some a) : (l.take (k + 1)).foldl f x = f ((l.take k).foldl f x) a := by
  rw [List.take_add_one, h, List.foldl_append]
  rfl
theorem PoTo.grow {w w1 w2 : World} {b : Nat} {p : Po} {L : PoL} (h : PoTo w w1 b p L) (hb : Below w1.heap.size w1 w2) : PoTo w w2 b p L := by
  obtain ⟨L1, A, e, G, O⟩ := h
  exact ⟨L1, A.below hb, e, G.below hb, O⟩
theorem PoTo.afterE {w w1 w2 : World} {b : Nat} {q : Po} {L : PoL} {vin : Value} (G : Chg (b :: own L.vin) w w1) (N : ∀ g ∈ own vin, g ∈ own L.vin ∨ w.heap.size ≤ g) (k : PoTo w1 w2 b q { L with vin := vin }) : PoTo w w2 b q L := by
  refine PoTo.after (L1 := { L with vin := vin }) rfl (G.more (fun k hk => ?_)) (fun k hk => ?_) k
  · rw [mem6]
    rcases List.mem_cons.1 hk with hk | hk
    · exact .inl hk
    · exact .inr (.inr (.inl hk))
  · rw [mem6] at hk ⊢
    rcases hk with hk | hk | hk | hk
    · exact .inl (.inl hk)
    · exact .inl (.inr (.inl hk))
    · rcases N k hk with h9 | h9
      · exact .inl (.inr (.inr (.inl h9)))
      · exact .inr h9
    · exact .inl (.inr (.inr (.inr hk)))
theorem PoTo.beside {w w1 : World} {b g : Nat} {p : Po} {L : PoL} {cs : Array Value} (h : PoTo w w1 b p L) (N : Blk w1 g cs 124) (hg : w.heap.size ≤ g) (i : Nat) (v : Value) : PoTo w (w1.setCell ⟨g, i, none⟩ v) b p L := by
  obtain ⟨L1, A, e, G, O⟩ := h
  have T := Typed.one N
  refine ⟨L1, A.far (F := [g]) (T.off (by decide)) (fun k hk hk2 => ?_) ((Chg.refl [g] w1).set (.inl (by simp)) v), e, G.set (.inr hg) v, O⟩
  exact A.typed.disj T (by decide) k hk hk2
theorem PoTo.beside8 {w w1 : World} {b g : Nat} {p : Po} {L : PoL} {cs : Array Value} (h : PoTo w w1 b p L) (N : Blk w1 g cs 124) (hg : w.heap.size ≤ g) (v0 v1 v2 v3 v4 v5 v6 v7 : Value) :
    PoTo w ((((((((w1.setCell ⟨g, 0, none⟩ v0).setCell ⟨g, 1, none⟩ v1).setCell ⟨g, 2, none⟩ v2).setCell ⟨g, 3, none⟩ v3).setCell ⟨g, 4, none⟩ v4).setCell ⟨g, 5, none⟩ v5).setCell ⟨g, 6, none⟩ v6).setCell ⟨g, 7, none⟩ v7) b p L :=
  (((((((h.beside N hg 0 v0).beside (N.set 0 v0) hg 1 v1).beside ((N.set 0 v0).set 1 v1) hg 2 v2).beside (((N.set 0 v0).set 1 v1).set 2 v2) hg 3 v3).beside ((((N.set 0 v0).set 1 v1).set 2 v2).set 3 v3) hg 4 v4).beside (((((N.set 0 v0).set 1 v1).set 2 v2).set 3 v3).set 4 v4) hg 5 v5).beside ((((((N.set 0 v0).set 1 v1).set 2 v2).set 3 v3).set 4 v4).set 5 v5) hg 6 v6).beside (((((((N.set 0 v0).set 1 v1).set 2 v2).set 3 v3).set 4 v4).set 5 v5).set 6 v6) hg 7 v7
theorem Bits8.laid : Laid Tryz.prog 124 8 := ⟨⟨_, Tryz.underlying124, rfl⟩, by kernel_rfl⟩
theorem bits8c_at (l : List Bool) (h : l.length < 8) : (bits8c l)[l.length]? = some (.bool false) := by
  unfold bits8c
  have e : 8 - l.length = (7 - l.length) + 1 := by omega
  rw [e, List.replicate_succ]
  simp
theorem judge_len (t : List Bool) : (judgeB t).1.length ≤ 279 := by
  unfold judgeB
  repeat' (first | split | (dsimp only))
  all_goals first | (simp; done) | (rw [List.length_take]; simp only [octN, List.length_map, List.length_range]; omega)
theorem Er.bit_len (e e' : Er) (on : Bool) (d : Int × Oct) (h : e.bit on = (e', some d)) : d.2.length ≤ 279 := by
  unfold Er.bit Er.count Er.flag at h
  repeat' split at h
  all_goals simp only [Prod.mk.injEq, Option.some.injEq, reduceCtorEq, and_false] at h
  all_goals first | (obtain ⟨_, rfl⟩ := h; first | exact judge_len _ | simp) | skip
/-- What an ear tells is told, its cells beside the terminal's others. -/
theorem PoAt.count {w : World} {b : Nat} {q : Po} {L : PoL} (h : PoAt w b q L) : PoAt (w.setCell ⟨b, 9, none⟩ (.int .i64 (q.came + 1))) b { q with came := q.came + 1 } L := by
  have T1 := Typed.one h.blk
  have G := (Chg.refl [b] w).set (b := b) (i := 9) (.inl (by simp)) (.int .i64 (q.came + 1))
  exact PoAt.byP h (F := [b]) (out := q.out) (nx := q.nx) (gone := q.gone) (came := q.came + 1) (sent := q.sent) (got := q.got) (vo := L.vo) (vn := L.vn) (vs := L.vs) (vg := L.vg) ((h.blk.set 9 _).as (by simp [Po.cells])) G (T1.more (by simp)) (Row.keep h.out (T1.off (by decide)) G) (h.nx.stay (T1.off (by decide)) G) h.nn (h.sn.keep (T1.off (by decide)) (T1.off (by decide)) G) (h.gt.keep (T1.off (by decide)) (T1.off (by decide)) G) (fun k hk => .inl hk)
theorem PTick_c {w : World} {b : Nat} {p : Po} {L : PoL} {m : Nat} (h : PoAt w b p L) (hk : p.ok m) (hm : m ≤ 700000) (l : List Bool) (hl : l.length = 8) :
    Calls Tryz.prog 72 #[.pointer (some ⟨b, 0, none⟩), .agg (l.map Value.bool).toArray] w fun e w' => e = .returned (.agg ((p.tick l).2.map Value.bool).toArray) ∧ PoTo w w' b (p.tick l).1 L ∧ (l.foldl Po.inB p.first).x.h.oct := by
  obtain ⟨b0, b1, b2, b3, b4, b5, b6, b7, rfl⟩ : ∃ b0 b1 b2 b3 b4 b5 b6 b7, l = [b0, b1, b2, b3, b4, b5, b6, b7] := by
    match l, hl with
    | [b0, b1, b2, b3, b4, b5, b6, b7], _ => exact ⟨b0, b1, b2, b3, b4, b5, b6, b7, rfl⟩
  obtain ⟨l, hL⟩ : ∃ l, [b0, b1, b2, b3, b4, b5, b6, b7] = l := ⟨_, rfl⟩
  have hl8 : l.length = 8 := by rw [← hL]; rfl
  have HL := Lib.hid hL
  simp only [hL]
  have e0 : ([b0, b1, b2, b3, b4, b5, b6, b7].map Value.bool).toArray = #[.bool b0, .bool b1, .bool b2, .bool b3, .bool b4, .bool b5, .bool b6, .bool b7] := rfl
  rw [hL] at e0
  rw [e0]
  clear hL e0
  have B3 := Lib.hid (bl_alloc (bl_alloc (bl_alloc (bl_refl w) (.cells #[.bool b0, .bool b1, .bool b2, .bool b3, .bool b4, .bool b5, .bool b6, .bool b7] 124)) (.cells #[.bool false, .bool false, .bool false, .bool false, .bool false, .bool false, .bool false, .bool false] 124)) (.cells #[.bool false, .bool false, .bool false, .bool false, .bool false, .bool false, .bool false, .bool false] 124))
  have N0 := Lib.hid (((Blk.new w #[.bool b0, .bool b1, .bool b2, .bool b3, .bool b4, .bool b5, .bool b6, .bool b7] 124).alloc (.cells #[.bool false, .bool false, .bool false, .bool false, .bool false, .bool false, .bool false, .bool false] 124)).alloc (.cells #[.bool false, .bool false, .bool false, .bool false, .bool false, .bool false, .bool false, .bool false] 124))
  have N1 := Lib.hid ((Blk.newAt (w := w.alloc (.cells #[.bool b0, .bool b1, .bool b2, .bool b3, .bool b4, .bool b5, .bool b6, .bool b7] 124)) (n := w.heap.size + 1) (by simp) #[.bool false, .bool false, .bool false, .bool false, .bool false, .bool false, .bool false, .bool false] 124).alloc (.cells #[.bool false, .bool false, .bool false, .bool false, .bool false, .bool false, .bool false, .bool false] 124))
  have N2 := Lib.hid (Blk.newAt (w := (w.alloc (.cells #[.bool b0, .bool b1, .bool b2, .bool b3, .bool b4, .bool b5, .bool b6, .bool b7] 124)).alloc (.cells #[.bool false, .bool false, .bool false, .bool false, .bool false, .bool false, .bool false, .bool false] 124)) (n := w.heap.size + 1 + 1) (by simp) #[.bool false, .bool false, .bool false, .bool false, .bool false, .bool false, .bool false, .bool false] 124)
  generalize hw3 : ((w.alloc (.cells #[.bool b0, .bool b1, .bool b2, .bool b3, .bool b4, .bool b5, .bool b6, .bool b7] 124)).alloc (.cells #[.bool false, .bool false, .bool false, .bool false, .bool false, .bool false, .bool false, .bool false] 124)).alloc (.cells #[.bool false, .bool false, .bool false, .bool false, .bool false, .bool false, .bool false, .bool false] 124) = w3 at B3 N0 N1 N2
  have H3 := Lib.hid (h.below B3.out)
  have hb : b < w.heap.size := h.blk.lt
  have nb : ∀ k, w.heap.size + k ≠ b := fun k e => by omega
  have nb2 : w.heap.size + 1 + 1 ≠ b := fun e => by omega
  have TB := Typed.one H3.out.blk
  have G4 := ((Chg.refl [b] w3).set (b := b) (i := 10) (.inl (by simp)) (.slice none 0 0)).set (b := b) (i := 11) (.inl (by simp)) (.slice none 0 0)
  have P4 := Lib.hid (PoAt.byP (w1 := (w3.setCell ⟨b, 10, none⟩ (.slice none 0 0)).setCell ⟨b, 11, none⟩ (.slice none 0 0)) H3.out (F := [b]) (out := p.out) (nx := p.nx) (gone := p.gone) (came := p.came) (sent := []) (got := []) (vo := L.vo) (vn := L.vn) (vs := .slice none 0 0) (vg := .slice none 0 0)
    (((H3.out.blk.set 10 (.slice none 0 0)).set 11 (.slice none 0 0)).as (by simp [Po.cells])) G4 (TB.more (by simp)) (Row.keep H3.out.out (TB.off (by decide)) G4) (H3.out.nx.stay (TB.off (by decide)) G4) H3.out.nn Sents.nil Cames.nil (fun k hk => .inl hk))
  have AF := Lib.hid (fun (w9 : World) (q9 : Po) (k : PoTo ((w3.setCell ⟨b, 10, none⟩ (.slice none 0 0)).setCell ⟨b, 11, none⟩ (.slice none 0 0)) w9 b q9 { L with vs := .slice none 0 0, vg := .slice none 0 0 }) => PoTo.after (w := w) (L := L) (L1 := { L with vs := .slice none 0 0, vg := .slice none 0 0 }) rfl ((Chg.of_below B3.out (poF b L)).then (G4.more poF_b)) (fun k hk => by
    rw [mem6] at hk ⊢
    rcases hk with h | h | h | h | h | h
    · exact .inl (.inl h)
    · exact .inl (.inr (.inl h))
    · exact .inl (.inr (.inr (.inl h)))
    · exact .inl (.inr (.inr (.inr (.inl h))))
    · exact absurd (show k ∈ ([] : List Nat) from h) (by simp)
    · exact absurd (show k ∈ ([] : List Nat) from h) (by simp)) k)
  have HT := Lib.hid (STick_c P4.out.lk hk.x (hk.few.le (by omega)))
  have K0 := Lib.hid ((N0.out.far (nb 0).symm 10 (.slice none 0 0)).far (nb 0).symm 11 (.slice none 0 0))
  have K1 := Lib.hid ((N1.out.far (nb 1).symm 10 (.slice none 0 0)).far (nb 1).symm 11 (.slice none 0 0))
  have K2 := Lib.hid ((N2.out.far nb2.symm 10 (.slice none 0 0)).far nb2.symm 11 (.slice none 0 0))
  have p3c := H3.out.blk.c
  have p3f := H3.out.blk.f
  have p4c := P4.out.blk.c
  have p4f := P4.out.blk.f
  clear TB G4
  go_enter Tryz.func72, Tryz.ntmps72
  go_upto_region 4 with fail
  clear hw3
  go_wp2_with (first
    | ((with_reducible refine HT.out.mono ?_); rintro e w5 ⟨rfl, T5⟩; (have X5 := Lib.hid (PoTo.byX P4.out T5)); (have K50 := Lib.hid (K0.out.keep (P4.out.lk.typed.off (by decide)) T5.choose_spec.2.1)); (have K51 := Lib.hid (K1.out.keep (P4.out.lk.typed.off (by decide)) T5.choose_spec.2.1)); (have K52 := Lib.hid (K2.out.keep (P4.out.lk.typed.off (by decide)) T5.choose_spec.2.1)); (have k50c := K50.out.c); clear T5))
  go_loopw [26] (fun i wr => ∃ k : Nat, k ≤ 8 ∧ i = .int .i64 k ∧ PoTo w wr b ((l.take k).foldl Po.inB p.first) L ∧ Blk wr (w.heap.size + 1) (bits8c []) 124 ∧ Blk wr (w.heap.size + 1 + 1) (bits8c []) 124) (fun i _ => 8 - (intOf i).toNat)
  case atStart => exact ⟨0, by omega, rfl, AF.out _ _ X5.out, K51.out, K52.out⟩
  case round =>
    obtain ⟨k, hk8, rfl, T, R1, R2⟩ := hrel
    obtain ⟨L1, A1, e1, G1, O1⟩ := T
    have qk := Po.ok_take hk l k hl8
    by_cases hlt : k < 8
    · have hlt' : (k : Int) < 8 := by omega
      obtain ⟨on, hon⟩ : ∃ on, l[k]? = some on := ⟨_, List.getElem?_eq_getElem (by omega)⟩
      have hi : (Instr.index 124 (.agg #[.bool b0, .bool b1, .bool b2, .bool b3, .bool b4, .bool b5, .bool b6, .bool b7]) (.int .i64 k)).run Tryz.prog wr = .ok (.bool on) wr := by
        have hL := HL.out
        have hon' := hon
        rw [← hL] at hon'
        rcases (by omega : k = 0 ∨ k = 1 ∨ k = 2 ∨ k = 3 ∨ k = 4 ∨ k = 5 ∨ k = 6 ∨ k = 7) with rfl | rfl | rfl | rfl | rfl | rfl | rfl | rfl
        all_goals
          simp only [List.getElem?_cons_zero, List.getElem?_cons_succ, Option.some.injEq] at hon'
          subst hon'
          show (Instr.index _ _ _).run _ _ = _
          kernel_rfl
      obtain ⟨q, hq⟩ : ∃ q, (l.take k).foldl Po.inB p.first = q := ⟨_, rfl⟩
      rw [hq] at A1 qk
      have HQ := Lib.hid (show (l.take (k + 1)).foldl Po.inB p.first = q.inB on by rw [foldl_take _ _ _ _ _ hon, hq])
      have hcm := qk.came
      have hge := qk.got
      have PB := Lib.hid A1.count
      have GB := (Chg.refl [b] wr).set (b := b) (i := 9) (.inl (by simp)) (.int .i64 (q.came + 1))
      have AF2 := Lib.hid (fun (w9 : World) (q9 : Po) (k : PoTo (wr.setCell ⟨b, 9, none⟩ (.int .i64 (q.came + 1))) w9 b q9 L1) => PoTo.after e1 G1 O1 (PoTo.after (L1 := L1) rfl (GB.more poF_b) (fun _ h => .inl h) k))
      have RB1 := Lib.hid (R1.far (nb 1).symm 9 (.int .i64 (q.came + 1)))
      have RB2 := Lib.hid (R2.far nb2.symm 9 (.int .i64 (q.came + 1)))
      have QK := Lib.hid qk
      obtain ⟨e', hd, hbit⟩ : ∃ e' hd, q.e.bit on = (e', hd) := ⟨_, _, rfl⟩
      have he1 := qk.e.ones
      have he2 := qk.e.n
      have he3 := qk.e.len
      have hE := EBit_c (e := q.e) PB.out.ear on (by omega) (by omega) he3
      rw [hbit] at hE
      have HE := Lib.hid hE
      have q1c := A1.blk.c
      have q1f := A1.blk.f
      have qbc := PB.out.blk.c
      have TE := Lib.hid ((Typed.one PB.out.blk).app (Typed.row PB.out.inn))
      clear hE A1 G1 O1 e1 GB hq qk he1 he2 he3 R1 R2
      cases hd with
      | none =>
        go_wp2_with (first
          | ((with_reducible refine HE.out.mono ?_); rintro e wC ⟨v, rfl, hv, E⟩; (have hv2 : v = .tuple #[.agg #[.int .u8 0, .slice none 0 0], .bool false] := hv); subst hv2; clear hv; (have XC := Lib.hid (PoTo.byE PB.out E)); (have RC1 := Lib.hid (RB1.out.keep (TE.out.off (by decide)) E.choose_spec.choose_spec.2.2.1)); (have RC2 := Lib.hid (RB2.out.keep (TE.out.off (by decide)) E.choose_spec.choose_spec.2.2.1)); clear E))
        go_roundw
        case rel =>
          have BD := bl_alloc (bl_refl wC) (.cells #[.int .u8 0, .slice none 0 0] 177)
          exact ⟨k + 1, by omega, by go_num, by rw [HQ.out, Po.inB_none hbit]; exact AF2.out _ _ (XC.out.grow BD), RC1.out.below BD, RC2.out.below BD⟩
        case measure => simp [intOf]; omega
      | some d =>
        obtain ⟨kd, o⟩ := d
        have ol := Er.bit_len _ _ _ _ hbit
        dsimp only at ol
        go_upto_region 12 with (first
          | ((with_reducible refine HE.out.mono ?_); rintro e wC ⟨v, rfl, hv, E⟩; (obtain ⟨vp, hv2, hp⟩ := hv); subst hv2; (obtain ⟨ap, cp, rfl, _⟩ := hp.1.shape); have HP := Lib.hid hp; clear hp; (obtain ⟨vin', cs', E', O', G', N'⟩ := E); (have PC := Lib.hid (PB.out.byE E' O' G' N')); (have AF3 := Lib.hid (fun (w9 : World) (q9 : Po) (k : PoTo wC w9 b q9 { L1 with vin := vin' }) => AF2.out w9 q9 (PoTo.afterE G' N' k))); (have RC1 := Lib.hid (RB1.out.keep (TE.out.off (by decide)) G')); (have RC2 := Lib.hid (RB2.out.keep (TE.out.off (by decide)) G')); clear E' O' G' N'))
        have BD := Lib.hid (bl_alloc (bl_refl wC) (.cells #[.int .u8 kd, .slice ap o.length cp] 177))
        have ND := Lib.hid (Blk.new wC #[.int .u8 kd, .slice ap o.length cp] 177)
        have PD := Lib.hid (PC.out.below BD.out)
        have HPD := Lib.hid (HP.out.below BD.out)
        have RD1 := Lib.hid (RC1.out.below BD.out)
        have RD2 := Lib.hid (RC2.out.below BD.out)
        have AF4 := Lib.hid (fun (w9 : World) (q9 : Po) (k : PoTo (wC.alloc (.cells #[.int .u8 kd, .slice ap o.length cp] 177)) w9 b q9 { L1 with vin := vin' }) => AF3.out w9 q9 (PoTo.stepB BD.out k))
        have hnC : wC.heap.size ≠ b := fun e => by have := PC.out.blk.lt; omega
        generalize hnn : wC.heap.size = nC at ND hnC ⊢
        generalize wC.alloc (.cells #[.int .u8 kd, .slice ap o.length cp] 177) = wD at PD HPD RD1 RD2 AF4 ND ⊢
        obtain ⟨ps, ep, rp, qp⟩ := PD.out.gt
        obtain ⟨ag, cg, eg, _⟩ := PD.out.gt.shape
        dsimp only at eg rp ep
        have EG := Lib.hid eg
        rw [eg] at rp
        have RP := Lib.hid rp
        have HPS := Lib.hid qp
        have HEP := Lib.hid ep
        have B9 := Lib.hid (bl_drew (bl_alloc (bl_refl wD) (.cells #[.int .u8 kd, .slice ap o.length cp, .int .i64 (q.came + 1)] 179)))
        have N9 := Lib.hid (Blk.drew (Blk.new wD #[.int .u8 kd, .slice ap o.length cp, .int .i64 (q.came + 1)] 179))
        have kdc := PD.out.blk.drew.c
        have kdf := PD.out.blk.drew.f
        have k9c := (PD.out.below B9.out).blk.c
        have k9f := (PD.out.below B9.out).blk.f
        have ndc := ND.out.drew.c
        have n9c := (ND.out.below B9.out).c
        dsimp only [Po.cells] at kdc k9c
        rw [eg] at kdc k9c
        have hb9 : b ≠ wD.heap.size := Nat.ne_of_lt PD.out.blk.lt
        have hb9' : wD.heap.size ≠ b := fun e => hb9 e.symm
        have hgl : q.got.length ≤ 1000000 := by omega
        clear ep rp qp eg
        go_region_law (first
          | (refine step_row_append _ rfl (.tmp 49) (.tmp 56) 152 rfl 179 Tryz.t179 (.agg #[.int .u8 0, .slice none 0 0, .int .i64 0]) 3 40 Tryz.underlying152 rfl rfl rfl rfl rfl (by decide) (.slice ag q.got.length cg) q.got.length (cmCells ps) rfl (RP.out.below B9.out) ⟨wD.heap.size, 0, none⟩ 1 1 [.int .u8 kd, .slice ap o.length cp, .int .i64 (q.came + 1)] rfl rfl (fun j u hu => by rw [Addr.add_lit, N9.out.c, Nat.zero_add]; simpa using hu) (by simp [Value.oneCell']) (by decide) (by simp [maxLen]; omega) (by omega) ?_; intro v6 w6 R6 G6 O6; (obtain ⟨a6, c6, rfl, hcap6⟩ := R6.shape); (have HR6 := Lib.hid R6); clear R6; (have TR := (Typed.row (RP.out.below B9.out)).off (t := 154) (by decide)); (have TH := (Typed.row (RP.out.below B9.out)).off (t := 177) (by decide)); (have h6c := ((PD.out.below B9.out).blk.keep TR G6).c); (have h6f := ((PD.out.below B9.out).blk.keep TR G6).f); (have HN6 := Lib.hid ((ND.out.below B9.out).keep TH G6)); (have n6c := HN6.out.c); clear TR TH))
        all_goals
          have T6 := got_end (d := (kd, o)) PD.out B9.out HEP.out HPS.out HPD.out HR6.out (EG.out.symm ▸ G6) (EG.out.symm ▸ O6)
          obtain ⟨L6, A6, e6, G6', O6'⟩ := T6
          have TP := Lib.hid PD.out.typed
          have AF6 := Lib.hid (fun (w9 : World) (q9 : Po) (k : PoTo (w6.setCell ⟨b, 11, none⟩ _) w9 b q9 L6) => AF4.out w9 q9 (PoTo.after e6 G6' O6' k))
          have HH := Lib.hid (PHear_c A6 QK.out.x (QK.out.few.le (by omega)) (kd, o) (HPD.out.stay (TP.out.off (by decide)) G6') (by dsimp only; omega))
          have n7c := (HN6.out.far hnC.symm 11 (.slice a6 (q.got.length + 1) c6)).c
          have RE1 := Lib.hid (RD1.out.keep (TP.out.off (by decide)) G6')
          have RE2 := Lib.hid (RD2.out.keep (TP.out.off (by decide)) G6')
          have TA := Lib.hid A6.typed
          clear G6' O6' e6 A6
          go_wp2_with (first
            | ((with_reducible refine HH.out.mono ?_); rintro e w7 ⟨rfl, T7⟩; (have HT7 := Lib.hid T7); (have RF1 := Lib.hid (RE1.out.keep (TA.out.off (by decide)) T7.choose_spec.2.2.1)); (have RF2 := Lib.hid (RE2.out.keep (TA.out.off (by decide)) T7.choose_spec.2.2.1)); clear T7))
          go_roundw
          case rel => exact ⟨k + 1, by omega, by go_num, by rw [HQ.out, Po.inB_some hbit]; exact AF6.out _ _ HT7.out, RF1.out, RF2.out⟩
          case measure => simp [intOf]; omega
    · have hk9 : k = 8 := by omega
      have e8 : (k : Int) = 8 := by omega
      rw [e8]
      subst hk9
      clear e8
      have hl9 : l.take 8 = l := List.take_of_length_le (by omega)
      rw [hl9] at A1 qk
      have AF1 := Lib.hid (fun (w9 : World) (q9 : Po) (k : PoTo wr w9 b q9 L1) => PoTo.after e1 G1 O1 k)
      obtain ⟨q, hq⟩ : ∃ q, l.foldl Po.inB p.first = q := ⟨_, rfl⟩
      have HQ := Lib.hid hq
      rw [hq] at A1 qk
      have hoct := A1.octs
      have HO := Lib.hid hoct
      have TQ := Lib.hid (AF1.out wr q (PoTo.same A1))
      have QK := Lib.hid qk
      have R1h := Lib.hid R1
      have R2h := Lib.hid R2
      clear A1 G1 O1 e1 hq qk R1 R2 hoct
      go_wp2
      go_loopw [64] (fun i wx => ∃ k : Nat, k ≤ 8 ∧ i = .int .i64 k ∧ PoTo w wx b (Po.outs k q).1 L ∧ Blk wx (w.heap.size + 1) (bits8c []) 124 ∧ Blk wx (w.heap.size + 1 + 1) (bits8c (Po.outs k q).2) 124) (fun i _ => 8 - (intOf i).toNat)
      case atStart => exact ⟨0, by omega, rfl, TQ.out, R1h.out, R2h.out⟩
      case round =>
        obtain ⟨k, hk8, rfl, T, S1, S2⟩ := hrel
        by_cases hlt : k < 8
        · have hlt' : (k : Int) < 8 := by omega
          obtain ⟨L2, A2, e2, G2, O2⟩ := T
          have hl2 := Po.outs_len k q
          obtain ⟨ok2, oc2⟩ := Po.ok_outs k QK.out HO.out
          have HB := Lib.hid (PBit_c A2 ok2.x oc2 ⟨ok2.gone.1, by have := ok2.gone.2; omega⟩ ok2.out (by have := ok2.sent; omega))
          have AF2 := Lib.hid (fun (w9 : World) (q9 : Po) (k : PoTo _ w9 b q9 L2) => PoTo.after e2 G2 O2 k)
          have TA := Lib.hid A2.typed
          have S1h := Lib.hid S1
          have S2h := Lib.hid S2
          have HSN := Lib.hid (Po.outs_snoc k q)
          have h0 := bits8c_at (Po.outs k q).2 (by omega)
          have hset := fun c => bits8c_set (Po.outs k q).2 c (by omega)
          rw [hl2] at h0 hset
          have HST := Lib.hid hset
          have H0 := Lib.hid h0
          clear A2 e2 G2 O2 ok2 oc2 S1 S2 hl2 h0 hset
          go_wp2_with (first
            | ((with_reducible refine HB.out.mono ?_); rintro e w7 ⟨rfl, T7⟩; (have HT7 := Lib.hid (AF2.out _ _ T7)); (have S17 := Lib.hid (S1h.out.keep (TA.out.off (by decide)) T7.choose_spec.2.2.1)); (have S27 := Lib.hid (S2h.out.keep (TA.out.off (by decide)) T7.choose_spec.2.2.1)); (have s7c := (S27.out.c k).trans H0.out); (have s7f := S27.out.f); clear T7))
          go_roundw
          case rel => exact ⟨k + 1, by omega, by go_num, by rw [HSN.out]; exact HT7.out.beside S27.out (by omega) k _, S17.out.far (by omega) k _, by rw [HSN.out]; exact (S27.out.set k _).as (HST.out _)⟩
          case measure => simp [intOf]; omega
        · have hk9 : k = 8 := by omega
          have e8 : (k : Int) = 8 := by omega
          rw [e8]
          subst hk9
          clear e8
          have h8 := Po.outs_len 8 q
          have HT := Lib.hid T
          have et : p.tick l = Po.outs 8 q := by unfold Po.tick; rw [HQ.out]
          have ET := Lib.hid et
          clear et
          generalize Po.outs 8 q = r at *
          obtain ⟨r1, r2⟩ := r
          obtain ⟨c0, c1, c2, c3, c4, c5, c6, c7, rfl⟩ : ∃ c0 c1 c2 c3 c4 c5 c6 c7, r2 = [c0, c1, c2, c3, c4, c5, c6, c7] := by
            match r2, h8 with
            | [c0, c1, c2, c3, c4, c5, c6, c7], _ => exact ⟨c0, c1, c2, c3, c4, c5, c6, c7, rfl⟩
          have S2' : Blk wr (w.heap.size + 1 + 1) #[.bool c0, .bool c1, .bool c2, .bool c3, .bool c4, .bool c5, .bool c6, .bool c7] 124 := S2
          have S1' : Blk wr (w.heap.size + 1) #[.bool false, .bool false, .bool false, .bool false, .bool false, .bool false, .bool false, .bool false] 124 := S1
          have s1c := S1'.c
          have s1f := S1'.f
          have s2c := S2'.c
          have SS := Lib.hid S1'
          clear S1 S2 S1' S2' T
          go_wp2
          refine bodyPost_ret (res_c rfl Bits8.laid rfl (SS.out.all8 _ _ _ _ _ _ _ _) rfl) rfl ?_
          rw [ET.out, HQ.out]
          exact ⟨rfl, HT.out.beside8 SS.out (by omega) _ _ _ _ _ _ _ _, HO.out⟩
end Go.Proofs.YtcllbmjmefeknaaGreatK
