/- The walks of post.New and of a terminal's small functions. What a law holds of a terminal from call to call. -/
import Derived.Test.YtcllbmjmefeknaaGreatTe6
import Derived.Test.YtcllbmjmefeknaaGreatFe9
namespace Go.Proofs.YtcllbmjmefeknaaGreatK
/-! ### The walks of post.New and of a terminal's small functions. -/
section
open Go Go.RowKit
set_option linter.unusedVariables false
set_option maxHeartbeats 20000000
set_option maxRecDepth 100000
theorem new_po {w w5 : World} {s : Su} {bx : Nat} {M : Lay} {vo : Value} (B : Below w.heap.size w w5) (S : StAt w5 bx (St.new s) M) (O : BitV w5 vo flagB) (hF : ∀ k ∈ stF bx M, w.heap.size ≤ k) (hO : ∀ k ∈ own vo, w.heap.size ≤ k) :
    ∃ L, PoAt (w5.alloc (.cells ((Po.new s).cells ⟨bx, M, .slice none 0 0, vo, .slice none 0 0, .slice none 0 0, .slice none 0 0⟩) 154)) w5.heap.size (Po.new s) L ∧ Below w.heap.size w (w5.alloc (.cells ((Po.new s).cells ⟨bx, M, .slice none 0 0, vo, .slice none 0 0, .slice none 0 0, .slice none 0 0⟩) 154)) ∧ ∀ k ∈ poF w5.heap.size L, w.heap.size ≤ k := by
  have ba := bl_alloc (bl_refl w5) (.cells ((Po.new s).cells ⟨bx, M, .slice none 0 0, vo, .slice none 0 0, .slice none 0 0, .slice none 0 0⟩) 154)
  refine ⟨⟨bx, M, .slice none 0 0, vo, .slice none 0 0, .slice none 0 0, .slice none 0 0⟩, ⟨Blk.new _ _ _, S.below ba, BitV.nil _, O.below ba, byt_nil, fun _ => rfl, Sents.nil, Cames.nil, by simp [own, Value.ownBlock]⟩, bl_then B ba, fun k hk => ?_⟩
  rw [mem6] at hk
  rcases hk with h | h | h | h | h | h
  · have := B.size; omega
  · exact hF k h
  · exact absurd (show k ∈ ([] : List Nat) from h) (by simp)
  · exact hO k h
  · exact absurd (show k ∈ ([] : List Nat) from h) (by simp)
  · exact absurd (show k ∈ ([] : List Nat) from h) (by simp)
theorem PNew_c (s : Su) (w : World) (HC : ∀ w, Calls Tryz.prog 17 #[s.v] w fun e w' => e = .returned (.int .i64 0) ∧ Below w.heap.size w w') :
    Calls Tryz.prog 68 #[s.v] w fun e w' => ∃ b, e = .returned (.tuple #[.pointer (some ⟨b, 0, none⟩), .int .i64 0]) ∧ ∃ L, PoAt w' b (Po.new s) L ∧ Below w.heap.size w w' ∧ ∀ k ∈ poF b L, w.heap.size ≤ k := by
  have HC := Lib.hid HC
  have HS := Lib.hid (fun w => SNew_c s w)
  obtain ⟨cyc, n1, n2, hd, oc, t0, t1, t2, t3, t4, t5, t6, t7⟩ := s
  have B0 := Lib.hid (bl_alloc (bl_refl w) (.cells #[.bool cyc, .int .i64 n1, .int .i64 n2, .int .i64 hd, .int .i64 oc, .int .i64 t0, .int .i64 t1, .int .i64 t2, .int .i64 t3, .int .i64 t4, .int .i64 t5, .int .i64 t6, .int .i64 t7] 24))
  have K0 := Lib.hid (Blk.new w #[.bool cyc, .int .i64 n1, .int .i64 n2, .int .i64 hd, .int .i64 oc, .int .i64 t0, .int .i64 t1, .int .i64 t2, .int .i64 t3, .int .i64 t4, .int .i64 t5, .int .i64 t6, .int .i64 t7] 24)
  go_enter Tryz.func68, Tryz.ntmps68
  go_upto_region 4 with (first
    | ((with_reducible refine (HC.out _).mono ?_); rintro e w2 ⟨rfl, b2⟩; have B2 := Lib.hid (bl_then B0.out b2); have K2 := Lib.hid (K0.out.below b2); have k2c := K2.out.c; clear b2))
  have BD := Lib.hid (bl_drew B2.out)
  have KD := Lib.hid K2.out.drew
  have kdc := KD.out.c
  obtain ⟨nw, hnw⟩ : ∃ nw, w.heap.size = nw := ⟨_, rfl⟩
  rw [hnw] at kdc KD ⊢
  clear k2c
  go_region_held3 (fun w' => ∀ i, w'.cell? ⟨nw, i, none⟩ = (#[.bool cyc, .int .i64 n1, .int .i64 n2, .int .i64 hd, .int .i64 oc, .int .i64 t0, .int .i64 t1, .int .i64 t2, .int .i64 t3, .int .i64 t4, .int .i64 t5, .int .i64 t6, .int .i64 t7] : Array Value)[i]?) (first | exact kdc | exact k4c | exact k5c | exact (Blk.alloc K5.out _).c | go_keep) (first
    | ((with_reducible refine (HS.out _).mono ?_); rintro e w4 ⟨bx, M, rfl, S4, b4, f4⟩; have HS4 := Lib.hid S4; have HF4 := Lib.hid f4; have HB4 := Lib.hid b4; have K4 := Lib.hid (KD.out.below b4); have k4c := (KD.out.below b4).c; clear S4 f4 b4)
    | ((with_reducible refine (Flag_c _).mono ?_); rintro e w5 ⟨vo, rfl, A5⟩; (obtain ⟨ao, co, rfl, _⟩ := A5.bits.shape); have HA5 := Lib.hid A5; have K5 := Lib.hid (K4.out.below A5.bel); have k5c := (K4.out.below A5.bel).c; clear A5))
  all_goals
    go_wp2
    go_ret2
    subst hnw
    exact ⟨_, rfl, new_po (bl_then (bl_then BD.out HB4.out) HA5.out.bel) (HS4.out.below HA5.out.bel) HA5.out.bits (fun k hk => Nat.le_trans BD.out.size (HF4.out k hk)) (fun k hk => Nat.le_trans (Nat.le_trans BD.out.size HB4.out.size) (HA5.out.own k hk))⟩
/-! ### Small functions -/
theorem PSent_c {w : World} {b : Nat} {p : Po} {L : PoL} (h : PoAt w b p L) : Calls Tryz.prog 86 #[.pointer (some ⟨b, 0, none⟩)] w fun e w' => e = .returned L.vs ∧ w = w' := by
  obtain ⟨a, c, e, _⟩ := h.sn.shape
  have hc := h.blk.c
  dsimp only [Po.cells] at hc
  rw [e] at hc ⊢
  clear h e
  go_enter Tryz.func86, Tryz.ntmps86
  go_wp2
  go_ret
  exact ⟨rfl, rfl⟩
theorem PCame_c {w : World} {b : Nat} {p : Po} {L : PoL} (h : PoAt w b p L) : Calls Tryz.prog 87 #[.pointer (some ⟨b, 0, none⟩)] w fun e w' => e = .returned L.vg ∧ w = w' := by
  obtain ⟨a, c, e, _⟩ := h.gt.shape
  have hc := h.blk.c
  dsimp only [Po.cells] at hc
  rw [e] at hc ⊢
  clear h e
  go_enter Tryz.func87, Tryz.ntmps87
  go_wp2
  go_ret
  exact ⟨rfl, rfl⟩
theorem POrder_c {w : World} {b : Nat} {F : List Nat} {p : Po} {L : PoL} {vp : Value} {o : Oct} (h : PoAt w b p L) (hk : p.x.ok) (hf : p.x.few 900000) (k : Int) (hv : BytI w F vp o) (hl : o.length ≤ 100000) :
    Calls Tryz.prog 78 #[.pointer (some ⟨b, 0, none⟩), .agg #[.int .u8 k, vp]] w fun e w' => e = .returned (.int .i64 (p.x.order k o).2) ∧ PoTo w w' b { p with x := (p.x.order k o).1 } L := by
  obtain ⟨ap, cp, rfl, _⟩ := hv.shape
  have B1 := Lib.hid (bl_alloc (bl_refl w) (.cells #[.int .u8 k, .slice ap o.length cp] 27))
  have H1 := Lib.hid (h.below B1.out)
  have HV := Lib.hid hv
  have HK := Lib.hid hk
  have HF := Lib.hid hf
  have HL := Lib.hid hl
  have K1 := H1.out.blk
  have N1 := Blk.new w #[.int .u8 k, .slice ap o.length cp] 27
  clear h hv
  go_enter Tryz.func78, Tryz.ntmps78
  go_upto_region 3 with fail
  refine wp_region_up_tail 5 (by kernel_rfl) (by kernel_rfl) ?_
  simp only [List.take_succ_cons, List.take_zero, List.drop_succ_cons, List.drop_zero]
  have up_K1 := fun (g : Up _) => (Blk.below K1 g.ok).c
  have up_N1 := fun (g : Up _) => (Blk.below N1 g.ok).c
  repeat (go_big_quiet_step (fail))
  refine wpQuiet_nil ?_
  clear up_K1 up_N1
  refine up_elim (fun w5 hb_w5 => ?_)
  have H5 := Lib.hid (H1.out.below hb_w5)
  have HO := Lib.hid (Order_c H5.out.lk HK.out HF.out k ((HV.out.below B1.out).below hb_w5) HL.out)
  clear K1 N1
  go_wp2_with (first
    | ((with_reducible refine HO.out.mono ?_); rintro e w6 ⟨rfl, T6⟩))
  go_ret
  exact ⟨rfl, PoTo.stepB (bl_then B1.out hb_w5) (PoTo.byX H5.out T6)⟩
end
/-! ### What a law holds of a terminal from call to call. -/
section
open Go Go.RowKit
set_option linter.unusedVariables false
set_option maxHeartbeats 20000000
set_option maxRecDepth 100000
/-- A terminal that lives, beside blocks of the law's own. -/
def PoW (w0 w : World) (b : Nat) (p : Po) (A : List Nat) : Prop := ∃ L, PoAt w b p L ∧ ∀ k ∈ poF b L, w0.heap.size ≤ k ∧ k ∉ A
/-- Nothing of what was there ahead of the law is changed, nor of these blocks, nor octets. -/
def Far (w0 w w' : World) (A : List Nat) : Prop := ∃ F, Chg F w w' ∧ (∀ g ∈ A, g ∉ F) ∧ (∀ k ∈ F, w0.heap.size ≤ k) ∧ Typed w F postT
theorem PoW.of {w0 w w' : World} {b : Nat} {p q : Po} {L : PoL} {A : List Nat} (h : PoAt w b p L) (hF : ∀ k ∈ poF b L, w0.heap.size ≤ k ∧ k ∉ A) (h0 : w0.heap.size ≤ w.heap.size) (hA : ∀ g ∈ A, g < w.heap.size) (T : PoTo w w' b q L) : PoW w0 w' b q A ∧ Far w0 w w' A := by
  obtain ⟨L1, A1, _, G, O⟩ := T
  refine ⟨⟨L1, A1, fun k hk => ?_⟩, poF b L, G, fun g hg hF' => (hF g hF').2 hg, fun k hk => (hF k hk).1, h.typed⟩
  rcases O k hk with h9 | h9
  · exact hF k h9
  · exact ⟨Nat.le_trans h0 h9, fun hg => absurd (hA k hg) (by omega)⟩
theorem PoW.far {w0 w w1 : World} {b : Nat} {p : Po} {A A' F : List Nat} (h : PoW w0 w b p A) (G : Chg F w w1) (hF : ∀ k ∈ F, k ∈ A ∨ w.heap.size ≤ k) (h8 : Off w 5 F) (hA' : ∀ g ∈ A', g ∈ A ∨ w.heap.size ≤ g) : PoW w0 w1 b p A' := by
  obtain ⟨L, P, hL⟩ := h
  refine ⟨L, P.far h8 (fun k hk hF' => ?_) G, fun k hk => ⟨(hL k hk).1, fun hg => ?_⟩⟩
  · rcases hF k hF' with h9 | h9
    · exact (hL k hk).2 h9
    · exact absurd (P.lt k hk) (by omega)
  · rcases hA' k hg with h9 | h9
    · exact (hL k hk).2 h9
    · exact absurd (P.lt k hk) (by omega)
theorem PoW.below {w0 w w1 : World} {b : Nat} {p : Po} {A : List Nat} (h : PoW w0 w b p A) (hb : Below w.heap.size w w1) : PoW w0 w1 b p A := h.far (F := []) (.of_below hb _) (by simp) (by simp [Off]) (fun g hg => .inl hg)
theorem PoW.less {w0 w : World} {b : Nat} {p : Po} {A A' : List Nat} (h : PoW w0 w b p A) (hA' : ∀ g ∈ A', g ∈ A ∨ w.heap.size ≤ g) : PoW w0 w b p A' := h.far (F := []) (.refl _ _) (by simp) (by simp [Off]) hA'
theorem Far.bel {w0 w w' : World} {A : List Nat} (h : Far w0 w w' A) (h0 : Below w0.heap.size w0 w) : Below w0.heap.size w0 w' := by
  obtain ⟨F, G, _, hF, _⟩ := h
  exact h0.trans (G.to_below h0.size hF)
theorem Far.size {w0 w w' : World} {A : List Nat} (h : Far w0 w w' A) : w.heap.size ≤ w'.heap.size := h.choose_spec.1.size
theorem Far.row {w0 w w' : World} {A : List Nat} (h : Far w0 w w' A) {e : TypeId} {sz n : Nat} {v : Value} {xs : List Value} (r : Row w e sz v n xs) (hA : ∀ g ∈ own v, g ∈ A) : Row w' e sz v n xs := by
  obtain ⟨F, G, hA', _, _⟩ := h
  exact r.chg G (fun g hg => hA' g (hA g hg))
theorem Far.byt {w0 w w' : World} {A : List Nat} (h : Far w0 w w' A) {v : Value} {xs : Oct} (r : BytV w v xs) : BytV w' v xs := by
  obtain ⟨F, G, _, _, T⟩ := h
  exact r.stay (T.off (by decide)) G
theorem Far.blk {w0 w w' : World} {A : List Nat} (h : Far w0 w w' A) {g : Nat} {cs : Array Value} {t : TypeId} (r : Blk w g cs t) (ht : t ∉ postT) : Blk w' g cs t := by
  obtain ⟨F, G, _, _, T⟩ := h
  exact r.keep (T.off ht) G
theorem PoW.lt {w0 w : World} {b : Nat} {p : Po} {A : List Nat} (h : PoW w0 w b p A) : w0.heap.size ≤ b ∧ b < w.heap.size := by
  obtain ⟨L, P, hL⟩ := h
  exact ⟨(hL b (mem6.2 (.inl rfl))).1, P.blk.lt⟩
theorem PoW.order {w0 w : World} {b : Nat} {p : Po} {A F : List Nat} {vp : Value} {o : Oct} (h : PoW w0 w b p A) (h0 : w0.heap.size ≤ w.heap.size) (hA : ∀ g ∈ A, g < w.heap.size) (hk : p.x.ok) (hf : p.x.few 900000) (k : Int) (hv : BytI w F vp o) (hl : o.length ≤ 100000) :
    Calls Tryz.prog 78 #[.pointer (some ⟨b, 0, none⟩), .agg #[.int .u8 k, vp]] w fun e w' => e = .returned (.int .i64 (p.x.order k o).2) ∧ PoW w0 w' b { p with x := (p.x.order k o).1 } A ∧ Far w0 w w' A := by
  obtain ⟨L, P, hL⟩ := h
  exact (POrder_c P hk hf k hv hl).mono fun e w' ⟨he, T⟩ => ⟨he, PoW.of P hL h0 hA T⟩
theorem Po.tick_len (p : Po) (l : List Bool) : (p.tick l).2.length = 8 := Po.outs_len 8 _
theorem eightB {l : List Bool} (h : l.length = 8) : ∃ d0 d1 d2 d3 d4 d5 d6 d7, l = [d0, d1, d2, d3, d4, d5, d6, d7] := by
  match l, h with
  | [d0, d1, d2, d3, d4, d5, d6, d7], _ => exact ⟨d0, d1, d2, d3, d4, d5, d6, d7, rfl⟩
theorem PoW.tick {w0 w : World} {b : Nat} {p : Po} {A : List Nat} {m : Nat} (h : PoW w0 w b p A) (h0 : w0.heap.size ≤ w.heap.size) (hA : ∀ g ∈ A, g < w.heap.size) (hk : p.ok m) (hm : m ≤ 700000) (c0 c1 c2 c3 c4 c5 c6 c7 : Bool) :
    Calls Tryz.prog 72 #[.pointer (some ⟨b, 0, none⟩), .agg #[.bool c0, .bool c1, .bool c2, .bool c3, .bool c4, .bool c5, .bool c6, .bool c7]] w fun e w' =>
      (∃ d0 d1 d2 d3 d4 d5 d6 d7, (p.tick [c0, c1, c2, c3, c4, c5, c6, c7]).2 = [d0, d1, d2, d3, d4, d5, d6, d7] ∧ e = .returned (.agg #[.bool d0, .bool d1, .bool d2, .bool d3, .bool d4, .bool d5, .bool d6, .bool d7])) ∧
      PoW w0 w' b (p.tick [c0, c1, c2, c3, c4, c5, c6, c7]).1 A ∧ Far w0 w w' A ∧ ([c0, c1, c2, c3, c4, c5, c6, c7].foldl Po.inB p.first).x.h.oct := by
  obtain ⟨L, P, hL⟩ := h
  refine (PTick_c P hk hm [c0, c1, c2, c3, c4, c5, c6, c7] rfl).mono fun e w' ⟨he, T, ho⟩ => ?_
  obtain ⟨d0, d1, d2, d3, d4, d5, d6, d7, hd⟩ := eightB (Po.tick_len p [c0, c1, c2, c3, c4, c5, c6, c7])
  obtain ⟨W1, W2⟩ := PoW.of P hL h0 hA T
  exact ⟨⟨d0, d1, d2, d3, d4, d5, d6, d7, hd, by rw [he, hd]; rfl⟩, W1, W2, ho⟩
/-- The usual setup. -/
abbrev usualP (cyc : Bool) : Su := ⟨cyc, 8, 300, 16, 600, 600, 12000, 8000, 4000, 1200, 100, 4000, 6000⟩
theorem PNewU_c (cyc : Bool) (w : World) : Calls Tryz.prog 68 #[(usualP cyc).v] w fun e w' => ∃ b, e = .returned (.tuple #[.pointer (some ⟨b, 0, none⟩), .int .i64 0]) ∧ PoW w w' b (Po.new (usualP cyc)) [] ∧ Below w.heap.size w w' :=
  (PNew_c (usualP cyc) w (fun w => Check_usual cyc w)).mono fun e w' ⟨b, he, L, P, B, hL⟩ => ⟨b, he, ⟨L, P, fun k hk => ⟨hL k hk, by simp⟩⟩, B⟩
theorem newU_ok (cyc : Bool) : (Po.new (usualP cyc)).ok 0 := Po.ok_new (by cases cyc <;> decide) (by cases cyc <;> decide) (by cases cyc <;> decide) (by cases cyc <;> decide)
end
end Go.Proofs.YtcllbmjmefeknaaGreatK
