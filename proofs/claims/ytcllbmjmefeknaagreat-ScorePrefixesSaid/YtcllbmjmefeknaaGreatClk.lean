/- The walks of package clock. -/
import Derived.Test.YtcllbmjmefeknaaGreatProg
import Derived.Test.YtcllbmjmefeknaaGreatCore
import Derived.Test.YtcllbmjmefeknaaGreatM
import Derived.Deep.DeepCutAuto
namespace Go.Proofs.YtcllbmjmefeknaaGreatK
open Go Go.RowKit
set_option linter.unusedVariables false
set_option maxHeartbeats 1000000
set_option maxRecDepth 100000
abbrev Ck.cells (c : Ck) : Array Value := #[.int .i64 c.c0, .int .i64 c.c1, .int .i64 c.c2, .int .i64 c.c3, .int .i64 c.c4, .int .i64 c.c5, .int .i64 c.c6, .int .i64 c.c7]
abbrev CkAt (w : World) (b : Nat) (c : Ck) : Prop := Blk w b c.cells 210
theorem right_t (i : Int) (w : World) (h0 : 0 ≤ i) (h1 : i < 8) : Calls Tryz.prog 188 #[.int .i64 i] w fun e w' => e = .returned (.bool true) ∧ w = w' := by
  go_enter Tryz.func188, Tryz.ntmps188
  go_wp2
  go_ret
  exact ⟨rfl, rfl⟩
theorem eight {i : Int} (h0 : 0 ≤ i) (h1 : i < 8) : i = 0 ∨ i = 1 ∨ i = 2 ∨ i = 3 ∨ i = 4 ∨ i = 5 ∨ i = 6 ∨ i = 7 := by omega
theorem Start_bad {w : World} {b : Nat} (i n : Int) (h0 : 0 ≤ i) (h1 : i < 8) (hn : n < 1 ∨ 4294967296 < n) :
    Calls Tryz.prog 169 #[.pointer (some ⟨b, 0, none⟩), .int .i64 i, .int .i64 n] w fun e w' => e = .returned (.int .i64 1) ∧ w = w' := by
  by_cases h2 : n < 1
  · clear hn
    go_enter Tryz.func169, Tryz.ntmps169
    go_wp2_with (first | ((with_reducible refine (right_t _ _ h0 h1).mono ?_); rintro e w1 ⟨rfl, rfl⟩))
    go_ret
    exact ⟨rfl, rfl⟩
  · have h3 : 4294967296 < n := by omega
    clear hn
    go_enter Tryz.func169, Tryz.ntmps169
    go_wp2_with (first | ((with_reducible refine (right_t _ _ h0 h1).mono ?_); rintro e w1 ⟨rfl, rfl⟩))
    go_ret
    exact ⟨rfl, rfl⟩
theorem Start_good {w : World} {b : Nat} {c : Ck} (hb : CkAt w b c) (i n : Int) (h0 : 0 ≤ i) (h1 : i < 8) (hn1 : 1 ≤ n) (hn2 : n ≤ 4294967296) :
    Calls Tryz.prog 169 #[.pointer (some ⟨b, 0, none⟩), .int .i64 i, .int .i64 n] w fun e w' => e = .returned (.int .i64 0) ∧ w' = w.setCell ⟨b, i.toNat, none⟩ (.int .i64 n) := by
  have hc : ∃ v, w.cell? ⟨b, i.toNat, none⟩ = some v := by
    rw [hb.c]
    rcases eight h0 h1 with rfl | rfl | rfl | rfl | rfl | rfl | rfl | rfl <;> exact ⟨_, rfl⟩
  obtain ⟨v, hc⟩ := hc
  have hf := hb.f i.toNat
  clear hb
  go_enter Tryz.func169, Tryz.ntmps169
  go_wp2_with (first | ((with_reducible refine (right_t _ _ h0 h1).mono ?_); rintro e w1 ⟨rfl, rfl⟩))
  go_ret
  exact ⟨rfl, rfl⟩
theorem Ck.put_cells (c : Ck) (i v : Int) (h0 : 0 ≤ i) (h1 : i < 8) : (c.put i v).cells = c.cells.setIfInBounds i.toNat (.int .i64 v) := by
  rcases eight h0 h1 with rfl | rfl | rfl | rfl | rfl | rfl | rfl | rfl <;> rfl
theorem Start_c {w : World} {b : Nat} {c : Ck} (hb : CkAt w b c) (i n : Int) (h0 : 0 ≤ i) (h1 : i < 8) :
    Calls Tryz.prog 169 #[.pointer (some ⟨b, 0, none⟩), .int .i64 i, .int .i64 n] w fun e w' => (∃ x, e = .returned (.int .i64 x)) ∧ CkAt w' b (c.start i n) ∧ Chg [b] w w' := by
  by_cases hn : 1 ≤ n ∧ n ≤ 4294967296
  · refine (Start_good hb i n h0 h1 hn.1 hn.2).mono ?_
    rintro e w' ⟨rfl, rfl⟩
    refine ⟨⟨_, rfl⟩, ?_, (Chg.refl _ _).set (by simp) _⟩
    unfold Ck.start
    rw [if_pos hn]
    show Blk _ _ (c.put i n).cells _
    rw [Ck.put_cells c i n h0 h1]
    exact hb.set _ _
  · refine (Start_bad (b := b) i n h0 h1 (by omega)).mono ?_
    rintro e w' ⟨rfl, rfl⟩
    refine ⟨⟨_, rfl⟩, ?_, Chg.refl _ _⟩
    unfold Ck.start
    rw [if_neg hn]
    exact hb
theorem Clear_c {w : World} {b : Nat} {c : Ck} (hb : CkAt w b c) :
    Calls Tryz.prog 161 #[.pointer (some ⟨b, 0, none⟩)] w fun e w' => e = .returned (.tuple #[]) ∧ CkAt w' b Ck.none ∧ Chg [b] w w' := by
  have hc := hb.c
  have hf := hb.f
  have HB := Lib.hid hb
  clear hb
  go_enter Tryz.func161, Tryz.ntmps161
  go_wp2
  go_end0
  refine ⟨rfl, ?_, ?_⟩
  · exact ((((((((HB.out.set 0 _).set 1 _).set 2 _).set 3 _).set 4 _).set 5 _).set 6 _).set 7 _).as (by simp [Ck.none])
  · repeat (refine Chg.set ?_ (by simp) _)
    exact Chg.refl _ _
theorem Left_c {w : World} {b : Nat} {c : Ck} (hb : CkAt w b c) (i : Int) (h0 : 0 ≤ i) (h1 : i < 8) :
    Calls Tryz.prog 196 #[.pointer (some ⟨b, 0, none⟩), .int .i64 i] w fun e w' => e = .returned (.int .i64 (c.get i)) ∧ w = w' := by
  have hc : w.cell? ⟨b, i.toNat, none⟩ = some (.int .i64 (c.get i)) := by
    rw [hb.c]
    rcases eight h0 h1 with rfl | rfl | rfl | rfl | rfl | rfl | rfl | rfl <;> rfl
  clear hb
  go_enter Tryz.func196, Tryz.ntmps196
  go_wp2_with (first | ((with_reducible refine (right_t _ _ h0 h1).mono ?_); rintro e w1 ⟨rfl, rfl⟩))
  go_ret
  exact ⟨rfl, rfl⟩
theorem On_c {w : World} {b : Nat} {c : Ck} (hb : CkAt w b c) (i : Int) (h0 : 0 ≤ i) (h1 : i < 8) :
    Calls Tryz.prog 185 #[.pointer (some ⟨b, 0, none⟩), .int .i64 i] w fun e w' => e = .returned (.bool (decide (0 < c.get i))) ∧ w = w' := by
  have HL := Lib.hid (Left_c hb i h0 h1)
  clear hb
  go_enter Tryz.func185, Tryz.ntmps185
  go_wp2_with (first | ((with_reducible refine HL.out.mono ?_); rintro e w1 ⟨rfl, rfl⟩))
  go_ret
  exact ⟨rfl, rfl⟩
abbrev ints (l : List Int) : Array Value := (l.map (Value.int .i64)).toArray
theorem Ck.stop_snoc (c : Ck) (l : List Int) (k : Nat) (h : k < l.length) : c.stop (l.take (k + 1)) = (c.stop (l.take k)).put (l.getD k 0) 0 := by
  unfold Ck.stop
  rw [List.take_succ_eq_append_getElem h, List.foldl_append]
  simp [List.getD, h]
theorem Stop_n {w : World} {b bl cap : Nat} {c : Ck} {l : List Int} (hb : CkAt w b c) (hl : Blk w bl (ints l) 3) (hi : ∀ i ∈ l, 0 ≤ i ∧ i < 8) (hlen : l.length ≤ 100) :
    Calls Tryz.prog 170 #[.pointer (some ⟨b, 0, none⟩), .slice (some ⟨bl, 0, none⟩) l.length cap] w fun e w' => e = .returned (.tuple #[]) ∧ CkAt w' b (c.stop l) ∧ Chg [b] w w' := by
  have hne : bl ≠ b := hl.ne hb (by decide)
  have hne' : b ≠ bl := fun e => hne e.symm
  go_enter Tryz.func170, Tryz.ntmps170
  go_wp2
  go_loopw [5, 8] (fun _ i wr => ∃ k : Nat, k ≤ l.length ∧ i = .int .i64 k ∧ CkAt wr b (c.stop (l.take k)) ∧ Chg [b] w wr) (fun _ i _ => l.length - (intOf i).toNat)
  case atStart => exact ⟨0, Nat.zero_le _, rfl, hb, Chg.refl _ _⟩
  case round =>
    obtain ⟨k, hk, rfl, hbk, hch⟩ := hrel
    by_cases hlt : k < l.length
    · have hx : ∃ x, l.getD k 0 = x := ⟨_, rfl⟩
      obtain ⟨x, hx⟩ := hx
      have hmem : x ∈ l := by rw [← hx, List.getD_eq_getElem?_getD, List.getElem?_eq_getElem hlt]; exact List.getElem_mem hlt
      obtain ⟨hx0, hx1⟩ := hi x hmem
      have hlr : wr.cell? ⟨bl, k, none⟩ = some (.int .i64 x) := by
        rw [(hl.chg hch (by simpa using hne)).c]
        simp [ints, List.getD_eq_getElem?_getD, List.getElem?_eq_getElem hlt] at hx ⊢
        exact hx
      have hcell : ∃ v, wr.cell? ⟨b, x.toNat, none⟩ = some v := by
        rw [hbk.c]
        rcases eight hx0 hx1 with rfl | rfl | rfl | rfl | rfl | rfl | rfl | rfl <;> exact ⟨_, rfl⟩
      obtain ⟨v, hcell⟩ := hcell
      have hfr := hbk.f x.toNat
      have H1 := Lib.hid hbk
      have H2 := Lib.hid hch
      have H3 := Lib.hid (Ck.stop_snoc c l k hlt)
      have H4 := Lib.hid hx
      clear hbk hch hl hb hi hx hmem
      go_wp2_with (first | ((with_reducible refine (right_t _ _ hx0 hx1).mono ?_); rintro e w1 ⟨rfl, rfl⟩))
      go_roundw
      case rel =>
        refine ⟨k + 1, by omega, by go_num, ?_, H2.out.set (by simp) _⟩
        rw [H3.out, H4.out]
        show Blk _ _ (Ck.cells _) _
        rw [Ck.put_cells _ _ _ hx0 hx1]
        exact H1.out.set _ _
      case measure => simp [intOf]; omega
    · have : k = l.length := by omega
      subst this
      rw [List.take_length] at hbk
      have H1 := Lib.hid hbk
      have H2 := Lib.hid hch
      clear hbk hch hl hb hi
      go_wp2
      go_end0
      exact ⟨rfl, H1.out, H2.out⟩
theorem Stop_c {w : World} {b bl cap n : Nat} {c : Ck} {l : List Int} (hb : CkAt w b c) (hl : Blk w bl (ints l) 3) (hi : ∀ i ∈ l, 0 ≤ i ∧ i < 8) (hlen : l.length ≤ 100) (hn : l.length = n) :
    Calls Tryz.prog 170 #[.pointer (some ⟨b, 0, none⟩), .slice (some ⟨bl, 0, none⟩) n cap] w fun e w' => e = .returned (.tuple #[]) ∧ CkAt w' b (c.stop l) ∧ Chg [b] w w' := hn ▸ Stop_n hb hl hi hlen
end Go.Proofs.YtcllbmjmefeknaaGreatK
