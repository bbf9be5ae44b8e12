/- What a law holds of a terminal from call to call; layer 19's example. -/
import Derived.Test.YtdffinnnjcgfcaaGreatRf7
namespace Go.Proofs.YtdffinnnjcgfcaaGreatK
open Go Go.RowKit
set_option linter.unusedVariables false
set_option maxHeartbeats 20000000
set_option maxRecDepth 100000
/-- A terminal that lives, beside blocks of the law's own. -/
def PoW (w0 w : World) (b : Nat) (p : Po) (A : List Nat) : Prop := ∃ L, PoAt w b p L ∧ ∀ k ∈ poF b L, w0.heap.size ≤ k ∧ k ∉ A
/-- Nothing of what was there ahead of the law is changed, nor of these blocks, nor octets. -/
def Far (w0 w w' : World) (A : List Nat) : Prop := ∃ F, Chg F w w' ∧ (∀ g ∈ A, g ∉ F) ∧ (∀ k ∈ F, w0.heap.size ≤ k) ∧ Typed w F postT
theorem PoW.of {w0 w w' : World} {b : Nat} {p q : Po} {L : PoL} {A : List Nat} (h : PoAt w b p L) (hF : ∀ k ∈ poF b L, w0.heap.size ≤ k ∧ k ∉ A) (h0 : w0.heap.size ≤ w.heap.size) (hA : ∀ g ∈ A, g < w.heap.size) (T : PoTo w w' b q L) : PoW w0 w' b q A ∧ Far w0 w w' A := by
  obtain ⟨L1, A1, _, G, O⟩ := T
  refine ⟨⟨L1, A1, fun k hk => ?_⟩, poF b L, G, fun g hg hF' => (hF g hF').2 hg, fun k hk => (hF k hk).1, h.typed⟩
  rcases O k hk with h9 | h9
  · exact hF k h9
  · exact ⟨Nat.le_trans h0 h9, fun hg => absurd (hA k hg) (by omega)⟩
theorem PoW.far {w0 w w1 : World} {b : Nat} {p : Po} {A A' F : List Nat} (h : PoW w0 w b p A) (G : Chg F w w1) (hF : ∀ k ∈ F, k ∈ A ∨ w.heap.size ≤ k) (h8 : Off w 5 F) (hA' : ∀ g ∈ A', g ∈ A ∨ w.heap.size ≤ g) : PoW w0 w1 b p A' := by
  obtain ⟨L, P, hL⟩ := h
  refine ⟨L, P.far h8 (fun k hk hF' => ?_) G, fun k hk => ⟨(hL k hk).1, fun hg => ?_⟩⟩
  · rcases hF k hF' with h9 | h9
    · exact (hL k hk).2 h9
    · exact absurd (P.lt k hk) (by omega)
  · rcases hA' k hg with h9 | h9
    · exact (hL k hk).2 h9
    · exact absurd (P.lt k hk) (by omega)
theorem PoW.below {w0 w w1 : World} {b : Nat} {p : Po} {A : List Nat} (h : PoW w0 w b p A) (hb : Below w.heap.size w w1) : PoW w0 w1 b p A := h.far (F := []) (.of_below hb _) (by simp) (by simp [Off]) (fun g hg => .inl hg)
theorem PoW.less {w0 w : World} {b : Nat} {p : Po} {A A' : List Nat} (h : PoW w0 w b p A) (hA' : ∀ g ∈ A', g ∈ A ∨ w.heap.size ≤ g) : PoW w0 w b p A' := h.far (F := []) (.refl _ _) (by simp) (by simp [Off]) hA'
theorem Far.bel {w0 w w' : World} {A : List Nat} (h : Far w0 w w' A) (h0 : Below w0.heap.size w0 w) : Below w0.heap.size w0 w' := by
  obtain ⟨F, G, _, hF, _⟩ := h
  exact h0.trans (G.to_below h0.size hF)
theorem Far.size {w0 w w' : World} {A : List Nat} (h : Far w0 w w' A) : w.heap.size ≤ w'.heap.size := h.choose_spec.1.size
theorem Far.row {w0 w w' : World} {A : List Nat} (h : Far w0 w w' A) {e : TypeId} {sz n : Nat} {v : Value} {xs : List Value} (r : Row w e sz v n xs) (hA : ∀ g ∈ own v, g ∈ A) : Row w' e sz v n xs := by
  obtain ⟨F, G, hA', _, _⟩ := h
  exact r.chg G (fun g hg => hA' g (hA g hg))
theorem Far.byt {w0 w w' : World} {A : List Nat} (h : Far w0 w w' A) {v : Value} {xs : Oct} (r : BytV w v xs) : BytV w' v xs := by
  obtain ⟨F, G, _, _, T⟩ := h
  exact r.stay (T.off (by decide)) G
theorem Far.blk {w0 w w' : World} {A : List Nat} (h : Far w0 w w' A) {g : Nat} {cs : Array Value} {t : TypeId} (r : Blk w g cs t) (ht : t ∉ postT) : Blk w' g cs t := by
  obtain ⟨F, G, _, _, T⟩ := h
  exact r.keep (T.off ht) G
theorem PoW.lt {w0 w : World} {b : Nat} {p : Po} {A : List Nat} (h : PoW w0 w b p A) : w0.heap.size ≤ b ∧ b < w.heap.size := by
  obtain ⟨L, P, hL⟩ := h
  exact ⟨(hL b (mem6.2 (.inl rfl))).1, P.blk.lt⟩
theorem PoW.order {w0 w : World} {b : Nat} {p : Po} {A F : List Nat} {vp : Value} {o : Oct} (h : PoW w0 w b p A) (h0 : w0.heap.size ≤ w.heap.size) (hA : ∀ g ∈ A, g < w.heap.size) (hk : p.x.ok) (hf : p.x.few 900000) (k : Int) (hv : BytI w F vp o) (hl : o.length ≤ 100000) :
    Calls Tryz.prog 57 #[.pointer (some ⟨b, 0, none⟩), .agg #[.int .u8 k, vp]] w fun e w' => e = .returned (.int .i64 (p.x.order k o).2) ∧ PoW w0 w' b { p with x := (p.x.order k o).1 } A ∧ Far w0 w w' A := by
  obtain ⟨L, P, hL⟩ := h
  exact (POrder_c P hk hf k hv hl).mono fun e w' ⟨he, T⟩ => ⟨he, PoW.of P hL h0 hA T⟩
theorem Po.tick_len (p : Po) (l : List Bool) : (p.tick l).2.length = 8 := Po.outs_len 8 _
theorem eightB {l : List Bool} (h : l.length = 8) : ∃ d0 d1 d2 d3 d4 d5 d6 d7, l = [d0, d1, d2, d3, d4, d5, d6, d7] := by
  match l, h with
  | [d0, d1, d2, d3, d4, d5, d6, d7], _ => exact ⟨d0, d1, d2, d3, d4, d5, d6, d7, rfl⟩
theorem PoW.tick {w0 w : World} {b : Nat} {p : Po} {A : List Nat} {m : Nat} (h : PoW w0 w b p A) (h0 : w0.heap.size ≤ w.heap.size) (hA : ∀ g ∈ A, g < w.heap.size) (hk : p.ok m) (hm : m ≤ 700000) (c0 c1 c2 c3 c4 c5 c6 c7 : Bool) :
    Calls Tryz.prog 58 #[.pointer (some ⟨b, 0, none⟩), .agg #[.bool c0, .bool c1, .bool c2, .bool c3, .bool c4, .bool c5, .bool c6, .bool c7]] w fun e w' =>
      (∃ d0 d1 d2 d3 d4 d5 d6 d7, (p.tick [c0, c1, c2, c3, c4, c5, c6, c7]).2 = [d0, d1, d2, d3, d4, d5, d6, d7] ∧ e = .returned (.agg #[.bool d0, .bool d1, .bool d2, .bool d3, .bool d4, .bool d5, .bool d6, .bool d7])) ∧
      PoW w0 w' b (p.tick [c0, c1, c2, c3, c4, c5, c6, c7]).1 A ∧ Far w0 w w' A ∧ ([c0, c1, c2, c3, c4, c5, c6, c7].foldl Po.inB p.first).x.h.oct := by
  obtain ⟨L, P, hL⟩ := h
  refine (PTick_c P hk hm [c0, c1, c2, c3, c4, c5, c6, c7] rfl).mono fun e w' ⟨he, T, ho⟩ => ?_
  obtain ⟨d0, d1, d2, d3, d4, d5, d6, d7, hd⟩ := eightB (Po.tick_len p [c0, c1, c2, c3, c4, c5, c6, c7])
  obtain ⟨W1, W2⟩ := PoW.of P hL h0 hA T
  exact ⟨⟨d0, d1, d2, d3, d4, d5, d6, d7, hd, by rw [he, hd]; rfl⟩, W1, W2, ho⟩
/-- The usual setup. -/
abbrev usualP (cyc : Bool) : Su := ⟨cyc, 8, 300, 16, 600, 600, 12000, 8000, 4000, 1200, 100, 4000, 6000⟩
theorem PNewU_c (cyc : Bool) (w : World) : Calls Tryz.prog 56 #[(usualP cyc).v] w fun e w' => ∃ b, e = .returned (.tuple #[.pointer (some ⟨b, 0, none⟩), .int .i64 0]) ∧ PoW w w' b (Po.new (usualP cyc)) [] ∧ Below w.heap.size w w' :=
  (PNew_c (usualP cyc) w (fun w => Check_usual cyc w)).mono fun e w' ⟨b, he, L, P, B, hL⟩ => ⟨b, he, ⟨L, P, fun k hk => ⟨hL k hk, by simp⟩⟩, B⟩
theorem newU_ok (cyc : Bool) : (Po.new (usualP cyc)).ok 0 := Po.ok_new (by cases cyc <;> decide) (by cases cyc <;> decide) (by cases cyc <;> decide) (by cases cyc <;> decide)
theorem PAwake_c (w : World) : Calls Tryz.prog 55 #[] w fun e w' => e = .returned (.bool true) ∧ Below w.heap.size w w' := by
  have HU := Lib.hid (Usual_c false w)
  have HN := Lib.hid (fun w => PNewU_c false w)
  go_enter Tryz.func55, Tryz.ntmps55
  go_upto_region 5 with (first
    | ((with_reducible refine HU.out.mono ?_); rintro e w2 ⟨rfl, b2⟩; have B2 := Lib.hid b2; clear b2)
    | ((with_reducible refine (HN.out _).mono ?_); rintro e w3 ⟨b, rfl, P3, b3⟩; have HB3 := Lib.hid b3; have HT := Lib.hid (P3.tick b3.size (by simp) (newU_ok false) (by omega) false false false false false false false false); clear b3)
    | ((with_reducible refine HT.out.mono ?_); rintro e w4 ⟨⟨d0, d1, d2, d3, d4, d5, d6, d7, hd, rfl⟩, P4, F4, _⟩; have HD := Lib.hid hd; have B4 := Lib.hid (bl_then B2.out (F4.bel HB3.out)); clear hd P4 F4))
  have e9 : [d0, d1, d2, d3, d4, d5, d6, d7] = flagB := HD.out.symm.trans (Po.first_out _ _)
  simp only [flagB, List.cons.injEq, and_true] at e9
  obtain ⟨rfl, rfl, rfl, rfl, rfl, rfl, rfl, rfl⟩ := e9
  have N5 := Lib.hid (show BitI _ (.slice (some ⟨w4.heap.size, 0, none⟩) 8 8) flagB from BitI.of (xs := flagB) (Blk.drew (Blk.new w4 (flagB.map Value.bool).toArray 98)))
  have B5 := Lib.hid (bl_then B4.out (bl_drew (bl_alloc (bl_refl w4) (.cells (flagB.map Value.bool).toArray 98))))
  go_region_held3 (fun _ => True) (first | exact trivial | go_keep) (first
    | ((with_reducible refine (KFlag_c _).mono ?_); rintro e w6 ⟨v6, rfl, A6⟩; (obtain ⟨a6, c6, rfl, _⟩ := A6.bits.shape); have B6 := Lib.hid (bl_then B5.out A6.bel); have HS := Lib.hid (KSame_c (N5.out.below A6.bel) A6.bits.i (by decide)); clear A6)
    | ((with_reducible refine HS.out.mono ?_); rintro e w7 ⟨rfl, b7⟩; have B7 := Lib.hid (bl_then B6.out b7); clear b7))
  go_wp2
  go_ret
  exact ⟨rfl, B7.out⟩
end Go.Proofs.YtdffinnnjcgfcaaGreatK
