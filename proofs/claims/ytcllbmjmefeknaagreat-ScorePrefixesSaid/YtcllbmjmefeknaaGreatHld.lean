/- The walks of package hold. The walks of package hold, continued: what makes memory. The walks of package hold, continued. The walks of package hold, continued: a message is sent. The walks of package hold, continued: messages are let go of. The walks of package hold, the last: answers. -/
import Derived.Test.YtcllbmjmefeknaaGreatRw
import Derived.Test.YtcllbmjmefeknaaGreatRng
import Derived.Test.YtcllbmjmefeknaaGreatM
import Derived.Deep.RegionHeld3
import Derived.Lib.SliceRun
import Derived.Deep.RegionLaw
import Derived.OwnWalk
import Derived.Laws.IdiomCopy
namespace Go.Proofs.YtcllbmjmefeknaaGreatK
/-! ### The walks of package hold. -/
section
open Go Go.RowKit
set_option linter.unusedVariables false
set_option maxHeartbeats 1000000
set_option maxRecDepth 100000
/-- No block of F holds octets. -/
def Off (w : World) (u8 : TypeId) (F : List Nat) : Prop := ∀ b ∈ F, ∃ cs t, Blk w b cs t ∧ t ≠ u8
theorem Row.blk {w : World} {e : TypeId} {sz n : Nat} {v : Value} {xs : List Value} (h : Row w e sz v n xs) : ∀ b ∈ own v, ∃ cs, Blk w b cs e := by
  intro b hb
  rcases h.2 with ⟨rfl, _⟩ | ⟨b', off, cap, cs, rfl, h1, h2, h3, h4, h5⟩
  · simp [own, Value.ownBlock] at hb
  · simp [own, Value.ownBlock] at hb
    subst hb
    exact ⟨cs, h3⟩
theorem Byt.stay {w w1 : World} {u8 : TypeId} {v : Value} {xs : List Int} {F : List Nat} (h : Byt w u8 v xs) (hF : Off w u8 F) (hc : Chg F w w1) : Byt w1 u8 v xs :=
  h.chg hc fun b hb hbF => by
    obtain ⟨cs, h1⟩ := h.1.blk b hb
    obtain ⟨cs', t, h2, h3⟩ := hF b hbF
    exact h2.ne h1 h3 rfl
theorem Msgs.stay {w w1 : World} {u8 by_ : TypeId} {v : Value} {xs : List Oct} {F : List Nat} (h : Msgs w u8 by_ v xs) (hF : Off w u8 F) (hc : Chg F w w1) (hn : ∀ b ∈ own v, b ∉ F) : Msgs w1 u8 by_ v xs := by
  obtain ⟨vs, h1, h2⟩ := h
  refine ⟨vs, h1.chg hc hn, fun j x hx => ?_⟩
  obtain ⟨u, h3, h4⟩ := h2 j x hx
  exact ⟨u, h3, h4.stay hF hc⟩
theorem Msgs.below {w w1 : World} {u8 by_ : TypeId} {v : Value} {xs : List Oct} (h : Msgs w u8 by_ v xs) (hb : Below w.heap.size w w1) : Msgs w1 u8 by_ v xs :=
  h.stay (F := []) (by simp [Off]) (.of_below hb []) (by simp)
theorem Off.below {w w1 : World} {u8 : TypeId} {F : List Nat} (h : Off w u8 F) (hb : Below w.heap.size w w1) : Off w1 u8 F := fun g hg => by
  obtain ⟨cs, t, h1, h2⟩ := h g hg
  exact ⟨cs, t, h1.below hb, h2⟩
abbrev BytV (w : World) (v : Value) (xs : Oct) : Prop := Byt w 5 v xs
/-- Octets that came from wherever: a slice that can be read, in a block that is none of F. -/
def BytI (w : World) (F : List Nat) (v : Value) (xs : Oct) : Prop :=
  ((v = .slice none 0 0 ∧ xs = []) ∨ (∃ a cap, v = .slice (some a) 0 cap ∧ xs = []) ∨ ∃ b off cap, v = .slice (some ⟨b, off, none⟩) xs.length cap ∧ xs.length ≤ cap ∧ b < w.heap.size ∧ b ∉ F ∧ ∀ j u, (xs.map (Value.int .u8))[j]? = some u → w.cell? ⟨b, off + j, none⟩ = some u) ∧ ∀ x ∈ xs, 0 ≤ x ∧ x ≤ 255
theorem BytI.shape {w : World} {F : List Nat} {v : Value} {xs : Oct} (h : BytI w F v xs) : ∃ a cap, v = .slice a xs.length cap ∧ xs.length ≤ cap := by
  rcases h.1 with ⟨rfl, rfl⟩ | ⟨a, cap, rfl, rfl⟩ | ⟨b, off, cap, rfl, h1, _⟩
  · exact ⟨none, 0, rfl, Nat.le_refl _⟩
  · exact ⟨_, cap, rfl, Nat.zero_le _⟩
  · exact ⟨_, cap, rfl, h1⟩
theorem BytI.chg {w w1 : World} {F G : List Nat} {v : Value} {xs : Oct} (h : BytI w F v xs) (hc : Chg G w w1) (hG : ∀ k ∈ G, k ∈ F) : BytI w1 F v xs := by
  refine ⟨?_, h.2⟩
  rcases h.1 with h1 | h1 | ⟨b, off, cap, e, h1, h2, h3, h4⟩
  · exact .inl h1
  · exact .inr (.inl h1)
  · refine .inr (.inr ⟨b, off, cap, e, h1, Nat.lt_of_lt_of_le h2 hc.size, h3, fun j u hu => ?_⟩)
    rw [← h4 j u hu]
    simp only [World.cell?, hc.blk b h2 (fun hg => h3 (hG b hg))]
theorem BytI.below {w w1 : World} {F : List Nat} {v : Value} {xs : Oct} (h : BytI w F v xs) (hb : Below w.heap.size w w1) : BytI w1 F v xs := h.chg (G := []) (.of_below hb _) (by simp)
theorem BytI.mono {w : World} {F G : List Nat} {v : Value} {xs : Oct} (h : BytI w F v xs) (hG : ∀ k ∈ G, k ∈ F ∨ w.heap.size ≤ k) : BytI w G v xs := by
  refine ⟨?_, h.2⟩
  rcases h.1 with h1 | h1 | ⟨b, off, cap, e, h1, h2, h3, h4⟩
  · exact .inl h1
  · exact .inr (.inl h1)
  · refine .inr (.inr ⟨b, off, cap, e, h1, h2, fun hg => ?_, h4⟩)
    rcases hG b hg with h | h
    · exact h3 h
    · omega
theorem BytI.mono2 {w w1 : World} {F G : List Nat} {v : Value} {xs : Oct} (h : BytI w1 F v xs) (k : BytI w G v xs) : BytI w1 G v xs := by
  refine ⟨?_, h.2⟩
  rcases h.1 with h1 | h1 | ⟨b, off, cap, e, h1, h2, h3, h4⟩
  · exact .inl h1
  · exact .inr (.inl h1)
  · rcases k.1 with ⟨k1, _⟩ | ⟨a', cap', e', k1⟩ | ⟨b', off', cap', e', _, _, k3, _⟩
    · rw [k1] at e; cases e
    · exact .inr (.inl ⟨a', cap', e', k1⟩)
    · rw [e] at e'
      simp only [Value.slice.injEq, Option.some.injEq, Addr.mk.injEq, and_true, true_and] at e'
      exact .inr (.inr ⟨b, off, cap, e, h1, h2, by rw [e'.1.1]; exact k3, h4⟩)
abbrev MsgV (w : World) (v : Value) (xs : List Oct) : Prop := Msgs w 5 25 v xs
structure HoAt (w : World) (b : Nat) (h : Ho) (vs vn : Value) : Prop where
  blk : Blk w b #[.int .i64 h.most, .int .i64 h.oc, vs, .int .u8 h.first, vn] 200
  sent : MsgV w vs h.sent
  next : MsgV w vn h.next
  apart : ∀ b ∈ own vs, b ∉ own vn
abbrev hoF (b : Nat) (vs vn : Value) : List Nat := b :: (own vs ++ own vn)
theorem MsgV.row {w : World} {v : Value} {xs : List Oct} (h : MsgV w v xs) : ∃ vs, Row w 25 1 v xs.length vs := ⟨h.choose, h.choose_spec.1⟩
theorem MsgV.shape {w : World} {v : Value} {xs : List Oct} (h : MsgV w v xs) : ∃ a cap, v = .slice a xs.length cap ∧ xs.length ≤ cap := h.choose_spec.1.shape
theorem Byt.i {w : World} {F : List Nat} {v : Value} {xs : Oct} (h : BytV w v xs) (hF : Off w 5 F) : BytI w F v xs := by
  refine ⟨?_, h.2⟩
  rcases h.1.2 with ⟨rfl, hn⟩ | ⟨b, off, cap, cs, rfl, h1, h2, h3, h4, h5⟩
  · exact .inl ⟨rfl, List.eq_nil_of_length_eq_zero hn⟩
  · refine .inr (.inr ⟨b, off, cap, rfl, h1, h3.lt, fun hg => ?_, fun j u hu => by rw [h3.c]; exact h5 j u hu⟩)
    obtain ⟨cs', t, h6, h7⟩ := hF b hg
    exact h6.ne h3 h7 rfl
theorem Byt.i0 {w : World} {v : Value} {xs : Oct} (h : BytV w v xs) : BytI w [] v xs := h.i (by simp [Off])
theorem BytV.shape {w : World} {v : Value} {xs : Oct} (h : BytV w v xs) : ∃ a cap, v = .slice a xs.length cap ∧ xs.length ≤ cap := h.1.shape
theorem HoAt.off {w : World} {b : Nat} {h : Ho} {vs vn : Value} (hh : HoAt w b h vs vn) : Off w 5 (hoF b vs vn) := by
  intro g hg
  rcases List.mem_cons.1 hg with rfl | hg
  · exact ⟨_, _, hh.blk, by decide⟩
  rcases List.mem_append.1 hg with hg | hg
  · obtain ⟨cs, h1⟩ := hh.sent.row.choose_spec.blk g hg
    exact ⟨cs, _, h1, by decide⟩
  · obtain ⟨cs, h1⟩ := hh.next.row.choose_spec.blk g hg
    exact ⟨cs, _, h1, by decide⟩
theorem HoAt.sne {w : World} {b : Nat} {h : Ho} {vs vn : Value} (hh : HoAt w b h vs vn) : b ∉ own vs := fun hg => by
  obtain ⟨cs, h1⟩ := hh.sent.row.choose_spec.blk b hg
  exact hh.blk.ne h1 (by decide) rfl
theorem HoAt.nne {w : World} {b : Nat} {h : Ho} {vs vn : Value} (hh : HoAt w b h vs vn) : b ∉ own vn := fun hg => by
  obtain ⟨cs, h1⟩ := hh.next.row.choose_spec.blk b hg
  exact hh.blk.ne h1 (by decide) rfl
theorem HoAt.stay {w w1 : World} {b : Nat} {h : Ho} {vs vn : Value} {F : List Nat} (hh : HoAt w b h vs vn) (hF : Off w 5 F) (hc : Chg F w w1) (hn : ∀ g ∈ hoF b vs vn, g ∉ F) : HoAt w1 b h vs vn :=
  ⟨hh.blk.chg hc (hn b (by simp)), hh.sent.stay hF hc (fun g hg => hn g (by simp [hg])), hh.next.stay hF hc (fun g hg => hn g (by simp [hg])), hh.apart⟩
theorem HoAt.below {w w1 : World} {b : Nat} {h : Ho} {vs vn : Value} (hh : HoAt w b h vs vn) (hb : Below w.heap.size w w1) : HoAt w1 b h vs vn :=
  hh.stay (F := []) (by simp [Off]) (.of_below hb []) (by simp)
theorem HSent_c {w : World} {b : Nat} {h : Ho} {vs vn : Value} (hh : HoAt w b h vs vn) :
    Calls Tryz.prog 79 #[.pointer (some ⟨b, 0, none⟩)] w fun e w' => e = .returned (.int .i64 h.sent.length) ∧ w = w' := by
  obtain ⟨a, cap, rfl, _⟩ := hh.sent.shape
  have hc := hh.blk.c
  have hf := hh.blk.f
  clear hh
  go_enter Tryz.func79, Tryz.ntmps79
  go_wp2
  go_ret
  exact ⟨rfl, rfl⟩
theorem HNext_c {w : World} {b : Nat} {h : Ho} {vs vn : Value} (hh : HoAt w b h vs vn) :
    Calls Tryz.prog 227 #[.pointer (some ⟨b, 0, none⟩)] w fun e w' => e = .returned (.int .i64 h.next.length) ∧ w = w' := by
  obtain ⟨a, cap, rfl, _⟩ := hh.next.shape
  have hc := hh.blk.c
  have hf := hh.blk.f
  clear hh
  go_enter Tryz.func227, Tryz.ntmps227
  go_wp2
  go_ret
  exact ⟨rfl, rfl⟩
theorem size_c {w : World} {v : Value} {xs : List Oct} (h : MsgV w v xs) (hlen : xs.length ≤ 1000) (ho : octs xs ≤ 2000000) :
    Calls Tryz.prog 187 #[v] w fun e w' => e = .returned (.int .i64 (octs xs)) ∧ w = w' := by
  obtain ⟨vs, ⟨hl, hr⟩, hm⟩ := h
  rcases hr with ⟨rfl, hn⟩ | ⟨bl, off, cap, cs, rfl, h1, h2, h3, h4, h5⟩
  · have : xs = [] := List.eq_nil_of_length_eq_zero hn
    subst this
    go_enter Tryz.func187, Tryz.ntmps187
    go_wp2
    go_loopw [3, 5, 8] (fun n _ i wr => n = .int .i64 0 ∧ i = .int .i64 0 ∧ w = wr) (fun _ _ i _ => 0)
    case atStart => exact ⟨rfl, rfl, rfl⟩
    case round =>
      obtain ⟨rfl, rfl, rfl⟩ := hrel
      go_wp2
      go_ret
      exact ⟨rfl, rfl⟩
  · go_enter Tryz.func187, Tryz.ntmps187
    go_wp2
    go_loopw [3, 5, 8] (fun n _ i wr => ∃ k : Nat, k ≤ xs.length ∧ i = .int .i64 k ∧ n = .int .i64 (octs (xs.take k) : Nat) ∧ w = wr) (fun _ _ i _ => xs.length - (intOf i).toNat)
    case atStart => exact ⟨0, Nat.zero_le _, rfl, rfl, rfl⟩
    case round =>
      obtain ⟨k, hk, rfl, rfl, rfl⟩ := hrel
      by_cases hlt : k < xs.length
      · obtain ⟨u, hu, hB⟩ := hm k xs[k] (List.getElem?_eq_getElem hlt)
        obtain ⟨au, cu, rfl, hcu⟩ := hB.1.shape
        have hcell : w.cell? ⟨bl, off + k, none⟩ = some (.slice au xs[k].length cu) := by rw [h3.c]; exact h5 k _ hu
        have hO := octs_snoc xs k hlt
        have hO1 := octs_take_le xs k
        have hO2 := octs_take_le xs (k + 1)
        clear hm hB hu h5 h3
        go_wp2
        go_roundw
        case rel => exact ⟨k + 1, by omega, by go_num, by rw [hO]; go_num, by first | rfl | trivial⟩
        case measure => simp [intOf]; omega
      · have : k = xs.length := by omega
        subst this
        rw [List.take_length] at *
        clear hm h5 h3
        go_wp2
        go_ret
        exact ⟨rfl, rfl⟩
theorem HWaiting_c {w : World} {b : Nat} {h : Ho} {vs vn : Value} (hh : HoAt w b h vs vn) (ho : h.ok) :
    Calls Tryz.prog 244 #[.pointer (some ⟨b, 0, none⟩)] w fun e w' => e = .returned (.int .i64 (octs h.sent)) ∧ w = w' := by
  have hc := hh.blk.c
  have hf := hh.blk.f
  have C := Lib.hid (size_c hh.sent (by have := ho.sent; omega) (by have := ho.octs; omega))
  clear hh ho
  go_enter Tryz.func244, Tryz.ntmps244
  go_wp2_with (first | ((with_reducible refine C.out.mono ?_); rintro e w1 ⟨rfl, rfl⟩))
  go_ret
  exact ⟨rfl, rfl⟩
theorem HOctets_c {w : World} {b : Nat} {h : Ho} {vs vn : Value} (hh : HoAt w b h vs vn) (ho : h.ok) :
    Calls Tryz.prog 165 #[.pointer (some ⟨b, 0, none⟩)] w fun e w' => e = .returned (.int .i64 h.octets) ∧ Below w.heap.size w w' := by
  have HH := Lib.hid hh
  have HO := Lib.hid ho
  have h1 := ho.octs
  clear hh ho
  have D1 := Lib.hid fun g : Up w => size_c (HH.out.below g.ok).sent (by have := HO.out.sent; omega) (by have := HO.out.octs; omega)
  have D2 := Lib.hid fun g : Up w => size_c (HH.out.below g.ok).next (by have := HO.out.all; omega) (by have := HO.out.octs; omega)
  have hblk := HH.out.blk
  go_enter Tryz.func165, Tryz.ntmps165
  go_wp2
  refine wp_region_up (by kernel_rfl) (by kernel_rfl) ?_
  have up_hblk := fun (g : Up _) => (Blk.below hblk g.ok).c
  repeat (go_big_quiet_step (first | (with_reducible exact Up.calls_same _ (D1.out _)) | (with_reducible exact Up.calls_same _ (D2.out _))))
  refine wpQuiet_nil ?_
  clear up_hblk
  refine up_elim (fun w2 hb_w2 => ?_)
  go_wp2
  go_ret
  exact ⟨rfl, hb_w2⟩
theorem HSize_c {w : World} {b : Nat} {h : Ho} {vs vn : Value} (hh : HoAt w b h vs vn) (ho : h.ok) :
    Calls Tryz.prog 245 #[.pointer (some ⟨b, 0, none⟩)] w fun e w' => e = .returned (.int .i64 h.size) ∧ w = w' := by
  have C := Lib.hid (HNext_c hh)
  obtain ⟨most, oc, sent, first, next⟩ := h
  have hc := hh.blk.c
  have hf := hh.blk.f
  have hN := hh.next
  have hlen := ho.all
  clear hh ho
  cases next with
  | nil =>
    go_enter Tryz.func245, Tryz.ntmps245
    go_wp2_with (first | ((with_reducible refine C.out.mono ?_); rintro e w1 ⟨rfl, rfl⟩))
    go_ret
    exact ⟨rfl, rfl⟩
  | cons p r =>
    obtain ⟨vs, ⟨hl, hr⟩, hm⟩ := hN
    rcases hr with ⟨rfl, hn⟩ | ⟨bl, off, cap, cs, rfl, h1, h2, h3, h4, h5⟩
    · simp at hn
    obtain ⟨u, hu, hB⟩ := hm 0 p rfl
    obtain ⟨au, cu, rfl, hcu⟩ := hB.1.shape
    have hcell : w.cell? ⟨bl, off, none⟩ = some (.slice au p.length cu) := by rw [h3.c]; exact h5 0 _ hu
    clear hm hB hu h5 h3
    simp only [List.length_cons] at *
    go_enter Tryz.func245, Tryz.ntmps245
    go_wp2_with (first | ((with_reducible refine C.out.mono ?_); rintro e w1 ⟨rfl, rfl⟩))
    go_ret
    exact ⟨rfl, rfl⟩
end
/-! ### The walks of package hold, continued: what makes memory. -/
section
open Go Go.RowKit
set_option linter.unusedVariables false
set_option maxHeartbeats 1000000
set_option maxRecDepth 100000
theorem Clone_c {w : World} {F : List Nat} {v : Value} {xs : Oct} (h : BytI w F v xs) (hl : xs.length ≤ 1000) :
    Calls Tryz.prog 80 #[v] w fun e w' => ∃ v', e = .returned v' ∧ BytV w' v' xs ∧ Below w.heap.size w w' ∧ ∀ b ∈ own v', w.heap.size ≤ b := by
  obtain ⟨hr, hx⟩ := h
  have q : ∀ (w : World) (a : Option Addr) (n c n' c' : Nat), (binOp .eql 25 (.slice a n c) (.slice none n' c')).run Tryz.prog w = .ok (.bool a.isNone) w := fun w a n c n' c' => Lib.run_eql_slice_nil w _ _ a n c n' c' Tryz.underlying25
  rcases hr with ⟨rfl, hn⟩ | ⟨a, cap, rfl, hn⟩ | ⟨b, off, cap, rfl, h1, h2, h3, h5⟩
  · subst hn
    go_enter Tryz.func80, Tryz.ntmps80
    go_wp2
    go_ret
    exact ⟨_, rfl, ⟨Row.nil _ _ _, by simp⟩, bl_refl w, by simp [own, Value.ownBlock]⟩
  · subst hn
    clear hx
    go_enter Tryz.func80, Tryz.ntmps80
    go_wp2
    go_ret
    exact ⟨_, rfl, ⟨⟨rfl, .inr ⟨_, _, _, _, rfl, Nat.le_refl _, by decide, Blk.new _ _ _, by simp, by simp⟩⟩, by simp⟩, (bl_alloc (bl_refl w) _), by simp [own, Value.ownBlock]⟩
  · cases xs with
    | nil =>
      clear hx h5 h3
      go_enter Tryz.func80, Tryz.ntmps80
      go_wp2
      go_ret
      exact ⟨_, rfl, ⟨⟨rfl, .inr ⟨_, _, _, _, rfl, Nat.le_refl _, by decide, Blk.new _ _ _, by simp, by simp⟩⟩, by simp⟩, (bl_alloc (bl_refl w) _), by simp [own, Value.ownBlock]⟩
    | cons x r =>
      have H5 := Lib.hid h5
      have HX := Lib.hid hx
      clear hx h5 h3
      go_enter Tryz.func80, Tryz.ntmps80
      have HR := Lib.hid (show Row (w.alloc (.cells #[] 5)) 5 1 (.slice (some ⟨w.heap.size, 0, none⟩) 0 0) 0 [] from ⟨rfl, .inr ⟨_, _, _, _, rfl, Nat.le_refl _, by decide, Blk.new _ _ _, by simp, by simp⟩⟩)
      have HN := Lib.hid (show ∀ j u, ((x :: r).map (Value.int .u8))[j]? = some u → (w.alloc (.cells #[] 5)).cell? ((⟨b, off, none⟩ : Addr).add j) = some u from fun j u hu => by
        have hq := H5.out j u hu
        rw [Addr.add_lit, (bl_alloc (bl_refl w) _).cell (World.block_lt_of_cell? w _ hq)]; exact hq)
      go_wp2_with (first
        | ((refine wpList_row_append _ rfl (.tmp 5) (.tmp 6) 25 rfl 5 Tryz.t5 (.int .u8 0) 1 1 Tryz.underlying25 rfl rfl rfl rfl rfl (by decide) (.slice (some ⟨w.heap.size, 0, none⟩) 0 0) 0 [] rfl HR.out ⟨b, off, none⟩ _ _ ((x :: r).map (Value.int .u8)) rfl (by simp) HN.out (by simp [Value.oneCell']) (by simp) (by simp [maxLen] at *; omega) (by simp at *; omega) ?_); intro v' w' R G O))
      go_ret
      refine ⟨v', rfl, ⟨by simpa using R, HX.out⟩, (bl_alloc (bl_refl w) _).trans (G.to_below (by simp) (by simp [own, Value.ownBlock])), ?_⟩
      intro g hg
      rcases O g hg with h | h
      · simp [own, Value.ownBlock] at h; omega
      · simp at h; omega
theorem HoAt.mk4 {w : World} {b : Nat} {h : Ho} {vs vx v' : Value} {next : List Oct} (hb : Blk w b #[.int .i64 h.most, .int .i64 h.oc, vs, .int .u8 h.first, vx] 200) (hs : MsgV w vs h.sent) (hv : MsgV w v' next) (ha : ∀ g ∈ own vs, g ∉ own v') :
    HoAt (w.setCell ⟨b, 4, none⟩ v') b { h with next := next } vs v' := by
  have hc : Chg [b] w (w.setCell ⟨b, 4, none⟩ v') := (Chg.refl _ _).set (by simp) _
  have ho : Off w 5 [b] := fun g hg => ⟨_, _, (by simpa using hg : g = b) ▸ hb, by decide⟩
  have hne : ∀ {v : Value} {l : List Oct}, MsgV w v l → ∀ g ∈ own v, g ∉ [b] := by
    intro v l hv g hg
    simp only [List.mem_singleton]
    rintro rfl
    obtain ⟨cs, h1⟩ := hv.row.choose_spec.blk g hg
    exact hb.ne h1 (by decide) rfl
  exact ⟨(hb.set 4 v').as (by simp), hs.stay ho hc (hne hs), hv.stay ho hc (hne hv), ha⟩
/-- A message is put behind others. -/
theorem Msgs.snoc {w w1 : World} {u8 by_ : TypeId} {v' u : Value} {xs : List Oct} {p : Oct} {F : List Nat} {vs : List Value} (hv : ∀ (j : Nat) (x : List Int), xs[j]? = some x → ∃ u, vs[j]? = some u ∧ Byt w u8 u x) (hl : vs.length = xs.length)
    (hF : Off w u8 F) (hc : Chg F w w1) (hr : Row w1 by_ 1 v' (xs.length + 1) (vs ++ [u])) (hp : Byt w1 u8 u p) : Msgs w1 u8 by_ v' (xs ++ [p]) := by
  refine ⟨vs ++ [u], by simpa using hr, fun j x hx => ?_⟩
  by_cases hj : j < xs.length
  · rw [List.getElem?_append_left hj] at hx
    obtain ⟨u', h1, h2⟩ := hv j x hx
    exact ⟨u', by rw [List.getElem?_append_left (by omega)]; exact h1, h2.stay hF hc⟩
  · rw [List.getElem?_append_right (by omega)] at hx
    have : j = xs.length := by
      have := (List.getElem?_eq_some_iff.1 hx).1
      simp at this; omega
    subst this
    simp at hx
    subst hx
    exact ⟨u, by rw [← hl]; simp, hp⟩
theorem put_end {w w4 w6 : World} {b : Nat} {h : Ho} {vs vn v4 v6 : Value} {p : Oct} {vsn : List Value} (hh : HoAt w b h vs vn)
    (B5 : Below w.heap.size w (w4.alloc (.cells #[v4] 25))) (hp : BytV w4 v4 p) (RN : Row w 25 1 vn h.next.length vsn)
    (MN : ∀ (j : Nat) (x : List Int), h.next[j]? = some x → ∃ u, vsn[j]? = some u ∧ Byt w 5 u x)
    (R6 : Row w6 25 1 v6 (h.next.length + 1) (vsn ++ [v4])) (G6 : Chg (own vn) (w4.alloc (.cells #[v4] 25)) w6)
    (O6 : ∀ b ∈ own v6, b ∈ own vn ∨ (w4.alloc (.cells #[v4] 25)).heap.size ≤ b) :
    HoAt (w6.setCell ⟨b, 4, none⟩ v6) b { h with next := h.next ++ [p] } vs v6 ∧ Chg (hoF b vs vn) w (w6.setCell ⟨b, 4, none⟩ v6) ∧ ∀ g ∈ own v6, g ∈ own vn ∨ w.heap.size ≤ g := by
  have off5 : Off (w4.alloc (.cells #[v4] 25)) 5 (own vn) := fun g hg => hh.off.below B5 g (by simp [hg])
  have sent6 := ((hh.sent.below B5).stay off5 G6 (fun g hg => hh.apart g hg))
  have next6 : MsgV w6 v6 (h.next ++ [p]) := Msgs.snoc (fun j x hx => by
    obtain ⟨u, h1, h2⟩ := MN j x hx
    exact ⟨u, h1, h2.below B5⟩) (by simpa using RN.1) off5 G6 R6 ((hp.below ((bl_refl _).alloc (Nat.le_refl _) _)).stay off5 G6)
  have blk6 := (hh.blk.below B5).chg G6 hh.nne
  refine ⟨HoAt.mk4 blk6 sent6 next6 ?_, ?_, ?_⟩
  · intro g hg hg'
    rcases O6 g hg' with h | h
    · exact hh.apart g hg h
    · have := hh.sent.row.choose_spec.lt g hg
      have := B5.size
      omega
  · exact ((Chg.of_below B5 _).trans (G6.more (G := hoF b vs vn) (fun g hg => List.mem_cons_of_mem _ (List.mem_append_right _ hg))) (fun g hg => .inl hg)).set (.inl (by simp)) _
  · intro g hg
    rcases O6 g hg with h | h
    · exact .inl h
    · have := B5.size
      exact .inr (by omega)
theorem Put_c {w : World} {b : Nat} {F : List Nat} {h : Ho} {vs vn vp : Value} {p : Oct} (hh : HoAt w b h vs vn) (ho : h.ok) (hp : BytI w F vp p) (hlp : p.length ≤ 100000) :
    Calls Tryz.prog 130 #[.pointer (some ⟨b, 0, none⟩), vp] w fun e w' => e = .returned (.int .i64 (h.put p).2) ∧ ∃ vn', HoAt w' b (h.put p).1 vs vn' ∧ Chg (hoF b vs vn) w w' ∧ ∀ g ∈ own vn', g ∈ own vn ∨ w.heap.size ≤ g := by
  obtain ⟨ap, cp, rfl, hcp⟩ := hp.shape
  obtain ⟨a1, c1, rfl, hcs⟩ := hh.sent.shape
  obtain ⟨an, cn, rfl, hcn⟩ := hh.next.shape
  have HH := Lib.hid hh
  have HO := Lib.hid ho
  have HP := Lib.hid hp
  have l1 := ho.all
  have l2 := ho.octs
  have l3 : h.octets = (octs h.sent : Int) + octs h.next := rfl
  have hc := hh.blk.c
  have hblk := hh.blk
  have D := Lib.hid fun g : Up w => HOctets_c (HH.out.below g.ok) HO.out
  clear hh ho hp
  have same : ∀ e : Int, h.put p = (h, e) → ∀ w', Below w.heap.size w w' → (Ending.returned (.int .i64 e) = Ending.returned (.int .i64 (h.put p).2) ∧ ∃ vn', HoAt w' b (h.put p).1 (.slice a1 h.sent.length c1) vn' ∧ Chg (hoF b (.slice a1 h.sent.length c1) (.slice an h.next.length cn)) w w' ∧ ∀ g ∈ own vn', g ∈ own (.slice an h.next.length cn) ∨ w.heap.size ≤ g) := by
    intro e he w' hb
    rw [he]
    exact ⟨rfl, _, HH.out.below hb, .of_below hb _, fun g hg => .inl hg⟩
  have SAME := Lib.hid same
  clear same
  by_cases h1 : p.length < 3
  · go_enter Tryz.func130, Tryz.ntmps130
    go_wp2
    go_ret
    exact SAME.out 5 (by simp [Ho.put, h1]) _ (bl_refl _)
  by_cases h2 : 273 < p.length
  · go_enter Tryz.func130, Tryz.ntmps130
    go_wp2
    go_ret
    exact SAME.out 6 (by simp [Ho.put, h1, h2]) _ (bl_refl _)
  by_cases h3 : h.most ≤ (h.sent.length + h.next.length : Int)
  · go_enter Tryz.func130, Tryz.ntmps130
    go_wp2
    refine wp_region_up (by kernel_rfl) (by kernel_rfl) ?_
    have up_hblk := fun (g : Up _) => (Blk.below hblk g.ok).c
    repeat (go_big_quiet_step (with_reducible exact Up.calls _ (D.out _)))
    refine wpQuiet_nil ?_
    clear up_hblk
    refine up_elim (fun w2 hb_w2 => ?_)
    go_wp2
    go_ret
    exact SAME.out 3 (by simp [Ho.put, h1, h2, h3]) _ hb_w2
  by_cases h4 : h.oc < h.octets + p.length
  · go_enter Tryz.func130, Tryz.ntmps130
    go_wp2
    have h3' : ¬ h.most ≤ (h.sent.length + h.next.length : Int) := by omega
    refine wp_region_up (by kernel_rfl) (by kernel_rfl) ?_
    have up_hblk := fun (g : Up _) => (Blk.below hblk g.ok).c
    repeat (go_big_quiet_step (with_reducible exact Up.calls _ (D.out _)))
    refine wpQuiet_nil ?_
    clear up_hblk
    refine up_elim (fun w2 hb_w2 => ?_)
    go_wp2
    go_ret
    exact SAME.out 3 (by simp [Ho.put, h1, h2, h4]) _ hb_w2
  · go_enter Tryz.func130, Tryz.ntmps130
    go_wp2
    have h3' : ¬ h.most ≤ (h.sent.length + h.next.length : Int) := by omega
    refine wp_region_up (by kernel_rfl) (by kernel_rfl) ?_
    have up_hblk := fun (g : Up _) => (Blk.below hblk g.ok).c
    repeat (go_big_quiet_step (with_reducible exact Up.calls _ (D.out _)))
    refine wpQuiet_nil ?_
    clear up_hblk
    refine up_elim (fun w2 hb_w2 => ?_)
    go_wp2
    have HB := Lib.hid (bl_drew hb_w2)
    have HP3 := Lib.hid (HP.out.below HB.out)
    obtain ⟨vsn, Rn, Mn⟩ := HH.out.next
    have RN := Lib.hid Rn
    have MN := Lib.hid Mn
    clear Rn Mn hc
    have hc3 := (HH.out.blk.below HB.out).c
    go_region_law (first
      | (refine step_row_append _ rfl (.tmp 49) (.tmp 52) 46 rfl 25 Tryz.t25 (.slice none 0 0) 1 24 Tryz.underlying46 rfl rfl rfl rfl rfl (by decide) (.slice an h.next.length cn) h.next.length vsn rfl (RN.out.below HB5.out) ⟨w4.heap.size, 0, none⟩ 1 1 [.slice a4 p.length c4] rfl rfl (fun j u hu => by
          rw [Addr.add_lit, (Blk.new w4 _ _).c, Nat.zero_add]; simpa using hu) (by simp [Value.oneCell']) (by decide) (by simp [maxLen]; omega) (by omega) ?_; intro v6 w6 R6 G6 O6; obtain ⟨a6, c6, rfl, hcap6⟩ := R6.shape; have HR6 := Lib.hid R6; clear R6; have hc6 := ((HH.out.blk.below HB5.out).chg G6 HH.out.nne).c; have hf6 := ((HH.out.blk.below HB5.out).chg G6 HH.out.nne).f)
      | (go_simp; (with_reducible refine (Clone_c HP3.out (by omega)).mono ?_); rintro e w4 ⟨v4, rfl, B4, hb4, own4⟩; obtain ⟨a4, c4, rfl, hc4⟩ := B4.1.shape; have HB5 := Lib.hid (bl_alloc (bl_then HB.out hb4) (.cells #[.slice a4 p.length c4] 25)); have HB4 := Lib.hid B4; clear B4; have hc4' := (HH.out.blk.below (bl_then HB.out hb4)).c; have hc5' := (HH.out.blk.below HB5.out).c))
    all_goals
      go_wp2
      go_ret
      have e1 : h.put p = ({ h with next := h.next ++ [p] }, 0) := by
        unfold Ho.put
        rw [if_neg h1, if_neg h2, if_neg (by omega)]
      rw [e1]
      exact ⟨rfl, _, put_end HH.out HB5.out HB4.out RN.out MN.out HR6.out G6 O6⟩
end
/-! ### The walks of package hold, continued. -/
section
open Go Go.RowKit
set_option linter.unusedVariables false
set_option maxHeartbeats 1000000
set_option maxRecDepth 100000
theorem HLast_c {w : World} {b : Nat} {h : Ho} {vs vn : Value} (hh : HoAt w b h vs vn) (ho : h.ok) :
    Calls Tryz.prog 190 #[.pointer (some ⟨b, 0, none⟩)] w fun e w' => e = .returned (.int .u8 h.last) ∧ Below w.heap.size w w' := by
  obtain ⟨a1, c1, rfl, _⟩ := hh.sent.shape
  have hblk := hh.blk
  have hc := hblk.c
  have l1 := ho.sent
  have l2 := ho.first
  have D := Lib.hid fun g : Up w => At_c (h.first + h.sent.length - 1) g.val
  have e : h.last = (h.first + h.sent.length - 1) % 128 := rfl
  clear hh ho
  go_enter Tryz.func190, Tryz.ntmps190
  go_wp2
  refine wp_region_up (by kernel_rfl) (by kernel_rfl) ?_
  have up_hblk := fun (g : Up _) => (Blk.below hblk g.ok).c
  repeat (go_big_quiet_step (with_reducible exact Up.calls_same _ (D.out _)))
  refine wpQuiet_nil ?_
  clear up_hblk
  refine up_elim (fun w2 hb_w2 => ?_)
  go_wp2
  go_ret
  exact ⟨rfl, hb_w2⟩
theorem HKnows_c {w : World} {b : Nat} {h : Ho} {vs vn : Value} (hh : HoAt w b h vs vn) (ho : h.ok) (n : Int) (h0 : 0 ≤ n) (h1 : n ≤ 255) :
    Calls Tryz.prog 171 #[.pointer (some ⟨b, 0, none⟩), .int .u8 n] w fun e w' => e = .returned (.bool (h.knows n)) ∧ Below w.heap.size w w' := by
  have l2 := ho.first
  have hc := hh.blk.c
  have D1 := Lib.hid (show Calls Tryz.prog 173 #[.int .u8 h.first] w (fun e w' => e = .returned (.int .u8 h.prev) ∧ w = w') from Prev_c h.first w (by omega) (by omega))
  have D2 := Lib.hid (HLast_c hh ho)
  have D3 := Lib.hid fun w' => Within_c n h.prev h.last w' h0 h1 (by simp only [Ho.prev]; omega) (by simp only [Ho.prev]; omega) (by simp only [Ho.last]; omega) (by simp only [Ho.last]; omega)
  clear hh ho
  by_cases hn : n < 128
  · go_enter Tryz.func171, Tryz.ntmps171
    go_wp2_with (first
      | ((with_reducible refine D1.out.mono ?_); rintro e w1 ⟨rfl, rfl⟩)
      | ((with_reducible refine D2.out.mono ?_); rintro e w2 ⟨rfl, hb2⟩)
      | ((with_reducible refine (D3.out _).mono ?_); rintro e w3 ⟨rfl, rfl⟩))
    go_ret
    exact ⟨by simp [Ho.knows, hn], hb2⟩
  · go_enter Tryz.func171, Tryz.ntmps171
    go_wp2
    go_ret
    exact ⟨by simp [Ho.knows]; omega, bl_refl _⟩
theorem HFlush_c {w : World} {b : Nat} {h : Ho} {vs vn : Value} (hh : HoAt w b h vs vn) :
    Calls Tryz.prog 132 #[.pointer (some ⟨b, 0, none⟩)] w fun e w' => e = .returned (.int .i64 h.next.length) ∧ HoAt w' b h.flush vs (.slice none 0 0) ∧ Chg [b] w w' := by
  obtain ⟨a1, c1, rfl, _⟩ := hh.next.shape
  have hc := hh.blk.c
  have hf := hh.blk.f
  have HH := Lib.hid hh
  clear hh
  go_enter Tryz.func132, Tryz.ntmps132
  go_wp2
  go_ret
  exact ⟨rfl, HoAt.mk4 HH.out.blk HH.out.sent ⟨[], Row.nil _ _ _, by simp⟩ (by simp [own, Value.ownBlock]), (Chg.refl _ _).set (by simp) _⟩
theorem HClear_c {w : World} {b : Nat} {h : Ho} {vs vn : Value} (hh : HoAt w b h vs vn) :
    Calls Tryz.prog 226 #[.pointer (some ⟨b, 0, none⟩)] w fun e w' => e = .returned (.tuple #[]) ∧ HoAt w' b h.clear (.slice none 0 0) (.slice none 0 0) ∧ Chg [b] w w' := by
  have hc := hh.blk.c
  have hf := hh.blk.f
  have HB := Lib.hid hh.blk
  clear hh
  go_enter Tryz.func226, Tryz.ntmps226
  go_wp2
  go_end0
  exact ⟨rfl, ⟨(((HB.out.set 2 _).set 4 _).set 3 _).as (by simp [Ho.clear]), ⟨[], Row.nil _ _ _, by simp [Ho.clear]⟩, ⟨[], Row.nil _ _ _, by simp [Ho.clear]⟩, by simp [own, Value.ownBlock]⟩, (((Chg.refl [b] w).set (by simp) _).set (by simp) _).set (by simp) _⟩
theorem HNew_c (most oc : Int) (w : World) :
    Calls Tryz.prog 174 #[.int .i64 most, .int .i64 oc] w fun e w' => ∃ b, e = .returned (.pointer (some ⟨b, 0, none⟩)) ∧ w.heap.size ≤ b ∧ HoAt w' b (Ho.none most oc) (.slice none 0 0) (.slice none 0 0) ∧ Below w.heap.size w w' := by
  go_enter Tryz.func174, Tryz.ntmps174
  go_wp2
  go_ret
  exact ⟨_, rfl, Nat.le_refl _, ⟨Blk.new _ _ _, ⟨[], Row.nil _ _ _, by simp [Ho.none]⟩, ⟨[], Row.nil _ _ _, by simp [Ho.none]⟩, by simp [own, Value.ownBlock]⟩, bl_alloc (bl_refl _) _⟩
theorem HAt_c {w : World} {b : Nat} {h : Ho} {vs vn : Value} (hh : HoAt w b h vs vn) (ho : h.ok) (i : Int) (hi0 : -1 ≤ i) (hi1 : i ≤ 1000) :
    Calls Tryz.prog 242 #[.pointer (some ⟨b, 0, none⟩), .int .i64 i] w fun e w' => ∃ v, e = .returned (.tuple #[.int .u8 (h.at i).1, v, .int .i64 (h.at i).2.2]) ∧ BytV w' v (h.at i).2.1 ∧ Below w.heap.size w w' ∧ ∀ g ∈ own v, w.heap.size ≤ g := by
  have D := Lib.hid (HSent_c hh)
  have l1 := ho.sent
  have l2 := ho.first
  by_cases h0 : i < 0
  · clear hh ho
    go_enter Tryz.func242, Tryz.ntmps242
    go_wp2
    go_ret3
    have e : h.at i = (0, [], 2) := by unfold Ho.at; rw [if_neg (by omega)]
    rw [e]
    exact ⟨_, rfl, ⟨Row.nil _ _ _, by simp⟩, bl_refl _, by simp [own, Value.ownBlock]⟩
  by_cases h1 : (h.sent.length : Int) ≤ i
  · clear hh ho
    go_enter Tryz.func242, Tryz.ntmps242
    go_wp2_with (first | ((with_reducible refine D.out.mono ?_); rintro e w1 ⟨rfl, rfl⟩))
    go_ret3
    have e : h.at i = (0, [], 2) := by unfold Ho.at; rw [if_neg (by omega)]
    rw [e]
    exact ⟨_, rfl, ⟨Row.nil _ _ _, by simp⟩, bl_refl _, by simp [own, Value.ownBlock]⟩
  obtain ⟨vss, Rs, Ms⟩ := hh.sent
  obtain ⟨u, hu, hB⟩ := Ms i.toNat h.sent[i.toNat] (List.getElem?_eq_getElem (by omega))
  have hlong := ho.lons _ (List.getElem_mem (show i.toNat < h.sent.length by omega))
  rcases Rs.2 with ⟨rfl, hn⟩ | ⟨bl, off, cap, cs, rfl, h3, h4, h5, h6, h7⟩
  · omega
  have hcell := h7 _ _ hu
  have hblk := hh.blk
  have hc := hblk.c
  have D1 := Lib.hid fun g : Up w => At_c (h.first + i) g.val
  have DB := Lib.hid hB
  have cell : ∀ g : Up w, g.val.cell? ⟨bl, off + i.toNat, none⟩ = some u := fun g => by rw [(h5.below g.ok).c]; exact hcell
  clear hh ho Ms Rs hB h7 h5
  go_enter Tryz.func242, Tryz.ntmps242
  go_wp2_with (first | ((with_reducible refine D.out.mono ?_); rintro e w1 ⟨rfl, rfl⟩))
  refine wp_region_up_tail 15 (by kernel_rfl) (by kernel_rfl) ?_
  simp only [List.take_succ_cons, List.take_zero, List.drop_succ_cons, List.drop_zero]
  have up_hblk := fun (g : Up _) => (Blk.below hblk g.ok).c
  repeat (go_big_quiet_step (with_reducible exact Up.calls_same _ (D1.out _)))
  refine wpQuiet_nil ?_
  clear up_hblk
  refine up_elim (fun w2 hb_w2 => ?_)
  go_wp2_with (first | ((with_reducible refine (Clone_c (DB.out.below hb_w2).i0 (by omega)).mono ?_); rintro e w3 ⟨v3, rfl, B3, hb3, own3⟩))
  go_ret3
  have e : h.at i = ((h.first + i) % 128, h.sent[i.toNat], 0) := by
    unfold Ho.at
    rw [if_pos (by omega)]
    simp [List.getD_eq_getElem?_getD, List.getElem?_eq_getElem (show i.toNat < h.sent.length by omega)]
  rw [e]
  exact ⟨_, rfl, B3, bl_then hb_w2 hb3, fun g hg => by have := own3 g hg; have := hb_w2.size; omega⟩
end
/-! ### The walks of package hold, continued: a message is sent. -/
section
open Go Go.RowKit
set_option linter.unusedVariables false
set_option maxHeartbeats 1000000
set_option maxRecDepth 100000
theorem Row.tail {w : World} {e : TypeId} {b off n cap : Nat} {x : Value} {xs : List Value} (h : Row w e 1 (.slice (some ⟨b, off, none⟩) (n + 1) cap) (n + 1) (x :: xs)) : Row w e 1 (.slice (some ⟨b, off + 1, none⟩) n (cap - 1)) n xs := by
  refine ⟨by have := h.1; simp at this ⊢; exact this, ?_⟩
  rcases h.2 with ⟨h1, _⟩ | ⟨b', off', cap', cs, he, h1, h2, h3, h4, h5⟩
  · cases h1
  · simp only [Value.slice.injEq, Option.some.injEq, Addr.mk.injEq, true_and] at he
    obtain ⟨⟨rfl, rfl, _⟩, rfl⟩ := he
    refine .inr ⟨b, off + 1, cap - 1, cs, rfl, by omega, by omega, h3, by omega, fun j u hu => ?_⟩
    rw [show off + 1 + j = off + (j + 1) by omega]
    exact h5 (j + 1) u (by simpa using hu)
theorem Row.tail' {w : World} {e : TypeId} {b off n cap : Nat} {x : Value} {xs : List Value} (h : Row w e 1 (.slice (some ⟨b, off, none⟩) (n + 1) cap) (n + 1) (x :: xs)) :
    ∃ off', (if cap = 1 then some (⟨b, off, none⟩ : Addr) else some ⟨b, off + 1, none⟩) = some ⟨b, off', none⟩ ∧ Row w e 1 (.slice (some ⟨b, off', none⟩) n (cap - 1)) n xs := by
  by_cases hc : cap = 1
  · subst hc
    refine ⟨off, by simp, ?_⟩
    have h1 := h.tail
    refine ⟨h1.1, ?_⟩
    rcases h.2 with ⟨h2, _⟩ | ⟨b', off', cap', cs, he, h2, h3, h4, h5, h6⟩
    · cases h2
    · simp only [Value.slice.injEq, Option.some.injEq, Addr.mk.injEq, true_and] at he
      obtain ⟨⟨rfl, rfl, _⟩, rfl⟩ := he
      have hn : n = 0 := by omega
      subst hn
      have : xs = [] := List.eq_nil_of_length_eq_zero (by simpa using h1.1)
      subst this
      exact .inr ⟨b, off, 0, cs, rfl, Nat.le_refl _, by decide, h4, by omega, by simp⟩
  · exact ⟨off + 1, by simp [hc], h.tail⟩
theorem send_end {w w5 w6 : World} {b : Nat} {most oc first : Int} {sent r : List Oct} {p : Oct} {vs vn v6 v7 vp : Value} {vss us : List Value} (hh : HoAt w b ⟨most, oc, sent, first, p :: r⟩ vs vn)
    (B5 : Below w.heap.size w w5) (hp : BytV w vp p) (RS : Row w 25 1 vs sent.length vss)
    (MS : ∀ (j : Nat) (x : List Int), sent[j]? = some x → ∃ u, vss[j]? = some u ∧ Byt w 5 u x)
    (RT : Row w 25 1 v7 r.length us) (MN : ∀ (j : Nat) (x : List Int), (p :: r)[j]? = some x → ∃ u, (vp :: us)[j]? = some u ∧ Byt w 5 u x) (h7 : own v7 = own vn)
    (R6 : Row w6 25 1 v6 (sent.length + 1) (vss ++ [vp])) (G6 : Chg (own vs) w5 w6) (O6 : ∀ b ∈ own v6, b ∈ own vs ∨ w5.heap.size ≤ b) :
    HoAt ((w6.setCell ⟨b, 2, none⟩ v6).setCell ⟨b, 4, none⟩ v7) b ⟨most, oc, sent ++ [p], first, r⟩ v6 v7 ∧ Chg (hoF b vs vn) w ((w6.setCell ⟨b, 2, none⟩ v6).setCell ⟨b, 4, none⟩ v7) ∧ ∀ g ∈ own v6 ++ own v7, g ∈ own vs ++ own vn ∨ w.heap.size ≤ g := by
  have off5 : Off w5 5 (own vs) := fun g hg => hh.off.below B5 g (by simp [hg])
  have sent6 : MsgV w6 v6 (sent ++ [p]) := Msgs.snoc (fun j x hx => by
    obtain ⟨u, h1, h2⟩ := MS j x hx
    exact ⟨u, h1, h2.below B5⟩) (by simpa using RS.1) off5 G6 R6 ((hp.below B5).stay off5 G6)
  have next0 : MsgV w v7 r := ⟨us, RT, fun j x hx => by
    obtain ⟨u, h1, h2⟩ := MN (j + 1) x (by simpa using hx)
    exact ⟨u, by simpa using h1, h2⟩⟩
  have next6 := (next0.below B5).stay off5 G6 (fun g hg hg' => hh.apart g hg' (h7 ▸ hg))
  have blk6 := (hh.blk.below B5).chg G6 hh.sne
  have hc : Chg [b] w6 ((w6.setCell ⟨b, 2, none⟩ v6).setCell ⟨b, 4, none⟩ v7) := ((Chg.refl _ _).set (by simp) _).set (by simp) _
  have ho : Off w6 5 [b] := fun g hg => ⟨_, _, (by simpa using hg : g = b) ▸ blk6, by decide⟩
  have hne : ∀ {v : Value} {l : List Oct}, MsgV w6 v l → ∀ g ∈ own v, g ∉ [b] := by
    intro v l hv g hg
    simp only [List.mem_singleton]
    rintro rfl
    obtain ⟨cs, h1⟩ := hv.row.choose_spec.blk g hg
    exact blk6.ne h1 (by decide) rfl
  refine ⟨⟨((blk6.set 2 v6).set 4 v7).as (by simp), sent6.stay ho hc (hne sent6), next6.stay ho hc (hne next6), ?_⟩, ?_, ?_⟩
  · intro g hg hg'
    rw [h7] at hg'
    rcases O6 g hg with h | h
    · exact hh.apart g h hg'
    · have := hh.next.row.choose_spec.lt g hg'
      have := B5.size
      omega
  · exact ((((Chg.of_below B5 _).trans (G6.more (G := hoF b vs vn) (fun g hg => List.mem_cons_of_mem _ (List.mem_append_left _ hg))) (fun g hg => .inl hg)).set (.inl (by simp)) _).set (.inl (by simp)) _)
  · intro g hg
    rcases List.mem_append.1 hg with hg | hg
    · rcases O6 g hg with h | h
      · exact .inl (List.mem_append_left _ h)
      · have := B5.size
        exact .inr (by omega)
    · exact .inl (List.mem_append_right _ (h7 ▸ hg))
theorem Send_c {w : World} {b : Nat} {h : Ho} {vs vn : Value} (hh : HoAt w b h vs vn) (ho : h.ok) :
    Calls Tryz.prog 240 #[.pointer (some ⟨b, 0, none⟩)] w fun e w' => ∃ v, e = .returned (.tuple #[.int .u8 h.send.2.1, v, .int .i64 h.send.2.2.2]) ∧ BytV w' v h.send.2.2.1 ∧ (∀ g ∈ own v, w.heap.size ≤ g) ∧
      ∃ vs' vn', HoAt w' b h.send.1 vs' vn' ∧ Chg (hoF b vs vn) w w' ∧ ∀ g ∈ own vs' ++ own vn', g ∈ own vs ++ own vn ∨ w.heap.size ≤ g := by
  obtain ⟨most, oc, sent, first, next⟩ := h
  obtain ⟨a1, c1, rfl, hcs⟩ := hh.sent.shape
  obtain ⟨an, cn, rfl, hcn⟩ := hh.next.shape
  have HH := Lib.hid hh
  have HO := Lib.hid ho
  have l1 := ho.sent
  have l2 := ho.all
  dsimp only at l1 l2
  have hc := hh.blk.c
  cases next with
  | nil =>
    clear hh ho
    go_enter Tryz.func240, Tryz.ntmps240
    go_wp2
    go_ret3
    exact ⟨_, rfl, ⟨Row.nil _ _ _, by simp [Ho.send]⟩, by simp [own, Value.ownBlock], _, _, HH.out, Chg.refl _ _, fun g hg => .inl hg⟩
  | cons p r =>
    by_cases hw : 127 ≤ sent.length
    · clear hh ho
      simp only [List.length_cons] at *
      go_enter Tryz.func240, Tryz.ntmps240
      go_wp2
      go_ret3
      have e : (⟨most, oc, sent, first, p :: r⟩ : Ho).send = (⟨most, oc, sent, first, p :: r⟩, 0, [], 3) := by simp [Ho.send, hw]
      rw [e]
      exact ⟨_, rfl, ⟨Row.nil _ _ _, by simp⟩, by simp [own, Value.ownBlock], _, _, HH.out, Chg.refl _ _, fun g hg => .inl hg⟩
    · obtain ⟨vss, Rs, Ms⟩ := hh.sent
      obtain ⟨vns, Rn, Mn⟩ := hh.next
      cases vns with
      | nil => have := Rn.1; simp at this
      | cons u us =>
        obtain ⟨u', hu, hB⟩ := Mn 0 p rfl
        have : u = u' := by simpa using hu
        subst this
        rcases id Rn.2 with ⟨hv, _⟩ | ⟨bn, off, cap, cs, he, h3, h4, h5, h6, h7⟩
        · simp at hv
        simp only [Value.slice.injEq] at he
        obtain ⟨rfl, _, rfl⟩ := he
        obtain ⟨au, cu, rfl, hcu⟩ := hB.1.shape
        have hcell : w.cell? ⟨bn, off, none⟩ = some (.slice au p.length cu) := by rw [h5.c]; exact h7 0 _ rfl
        have RS := Lib.hid Rs
        have RN := Lib.hid Rn
        have MS := Lib.hid Ms
        have MN := Lib.hid Mn
        have PB := Lib.hid hB
        clear hh ho Rs Rn Ms Mn hB h7 h5 hu
        simp only [List.length_cons] at *
        have HB := Lib.hid (bl_drew (bl_alloc (bl_refl w) (.cells #[.slice au p.length cu] 25)))
        obtain ⟨off', hoff', Rt⟩ := RN.out.tail'
        have RT := Lib.hid Rt
        clear Rt
        have hr1 : (1 : Int) ≤ (r.length : Int) + 1 := by omega
        have hc1 := HH.out.blk.drew.c
        have hc2 := (HH.out.blk.below HB.out).c
        go_enter Tryz.func240, Tryz.ntmps240
        go_wp2
        go_region_law (first
          | (refine step_row_append _ rfl (.tmp 35) (.tmp 37) 46 rfl 25 Tryz.t25 (.slice none 0 0) 1 24 Tryz.underlying46 rfl rfl rfl rfl rfl (by decide) (.slice a1 sent.length c1) sent.length vss rfl (RS.out.below HB.out) ⟨w.heap.size, 0, none⟩ 1 1 [.slice au p.length cu] rfl rfl (fun j u hu => by
              rw [Addr.add_lit, Blk.c (Blk.drew (Blk.new w #[.slice au p.length cu] 25)), Nat.zero_add]; simpa using hu) (by simp [Value.oneCell']) (by decide) (by simp [maxLen]; omega) (by omega) ?_; intro v6 w6 R6 G6 O6; obtain ⟨a6, c6, rfl, hcap6⟩ := R6.shape; have HR6 := Lib.hid R6; clear R6; have hc6 := ((HH.out.blk.below HB.out).chg G6 HH.out.sne).c; have hf6 := ((HH.out.blk.below HB.out).chg G6 HH.out.sne).f))
        all_goals
          obtain ⟨HN, GN, ON⟩ := send_end HH.out HB.out PB.out RS.out MS.out RT.out MN.out rfl HR6.out G6 O6
          generalize ((w6.setCell ⟨b, 2, none⟩ (.slice a6 (sent.length + 1) c6)).setCell ⟨b, 4, none⟩ (.slice (some ⟨bn, off', none⟩) r.length (cn - 1))) = w7 at *
          clear hc6 hf6 hc hc1 hc2 hcell
          have es : (⟨most, oc, sent, first, p :: r⟩ : Ho).send = (⟨most, oc, sent ++ [p], first, r⟩, (⟨most, oc, sent ++ [p], first, r⟩ : Ho).last, p, 0) := by simp only [Ho.send]; rw [if_neg hw]
          have ok7 : (⟨most, oc, sent ++ [p], first, r⟩ : Ho).ok := by have := Ho.ok_send HO.out; rw [es] at this; exact this
          have lp := ok7.lons p (by simp)
          have HN7 := Lib.hid HN
          have D := Lib.hid (HLast_c HN ok7)
          have OK := Lib.hid ok7
          have HES := Lib.hid es
          have PN := Lib.hid (show BytV w7 (.slice au p.length cu) p from PB.out.stay HH.out.off GN)
          have HG := Lib.hid GN
          have HON := Lib.hid ON
          clear es ok7 HN GN ON G6 O6
          go_wp2_with (first
            | ((with_reducible refine D.out.mono ?_); rintro e w8 ⟨rfl, hb8⟩)
            | ((with_reducible refine (Clone_c (PN.out.below hb8).i0 (by omega)).mono ?_); rintro e w9 ⟨v9, rfl, B9, hb9, own9⟩))
          go_ret3
          rw [HES.out]
          refine ⟨_, rfl, B9, ?_, _, _, (HN7.out.below hb8).below hb9, (HG.out.below hb8).below hb9, HON.out⟩
          intro g hg
          have := own9 g hg
          have := hb8.size
          have := HG.out.size
          omega
end
/-! ### The walks of package hold, continued: messages are let go of. -/
section
open Go Go.RowKit
set_option linter.unusedVariables false
set_option maxHeartbeats 1000000
set_option maxRecDepth 100000
/-- Cells are written over in a block that is known whole. -/
theorem put_cells {w : World} {b o : Nat} {cs : Array Value} {t : TypeId} {vs : List Value} (hb : Blk w b cs t) (hs : o + vs.length ≤ cs.size) :
    ∃ cs', Blk (w.setCells b o vs) b cs' t ∧ cs'.size = cs.size ∧ (∀ j u, vs[j]? = some u → cs'[o + j]? = some u) ∧ (∀ j, j < o ∨ o + vs.length ≤ j → cs'[j]? = cs[j]?) ∧ Chg [b] w (w.setCells b o vs) := by
  obtain ⟨cs', h1, h2⟩ := setCells_blk vs o w cs hb
  refine ⟨cs', h1, h2, fun j u hu => ?_, fun j hj => ?_, setCells_chg _ _ _ _ (Chg.refl _ _)⟩
  · obtain ⟨hj, rfl⟩ := List.getElem?_eq_some_iff.1 hu
    have := World.cell?_setCells_in b vs o w (fun j hj => by rw [hb.c, Array.getElem?_eq_getElem (by omega)]; rfl) j hj
    rw [h1.c] at this
    exact this
  · have := World.cell?_setCells_out b vs o w ⟨b, j, none⟩ (fun _ _ => hj)
    rw [h1.c, hb.c] at this
    exact this
theorem run_clear (w : World) (m cap k : Nat) {bn off : Nat} {cs : Array Value} (hk : 0 < k) (hb : Blk w bn cs 25) (hs : off + m + k ≤ cs.size) :
    (Builtin.clear_ #[46] 0 #[.slice (some ⟨bn, off + m, none⟩) k (cap - m)]).run Tryz.prog w = .ok (.tuple #[]) (w.setCells bn (off + m) (List.replicate k (.slice none 0 0))) :=
  Lib.run_clear_slice w _ 25 _ _ Tryz.underlying46 (fun w => rfl) rfl rfl bn (off + m) k _ hk (fun j hj => by rw [hb.c, Array.getElem?_eq_getElem (by omega)]; rfl) (fun j _ => hb.f _)
theorem Delete_n {w : World} {bn off k m cap : Nat} {cs : Array Value} {xs : List Value} (hb : Blk w bn cs 25) (hcap : k + m ≤ cap) (hmax : cap ≤ maxLen) (hsz : off + cap ≤ cs.size) (hk : 0 < k)
    (hlen : xs.length = k + m) (hx : ∀ j u, xs[j]? = some u → cs[off + j]? = some u) (h1 : ∀ u ∈ xs, u.oneCell' = true) :
    Calls Tryz.prog 243 #[.slice (some ⟨bn, off, none⟩) (k + m) cap, .int .i64 0, .int .i64 k] w fun e w' => e = .returned (.slice (some ⟨bn, off, none⟩) m cap) ∧
      ∃ cs', Blk w' bn cs' 25 ∧ cs'.size = cs.size ∧ (∀ j u, (xs.drop k)[j]? = some u → cs'[off + j]? = some u) ∧ Chg [bn] w w' := by
  have HB := Lib.hid hb
  have HX := Lib.hid hx
  have H1 := Lib.hid h1
  have hk1 : (0 : Int) < k := by omega
  have hk2 : (k : Int) ≤ k + m := by omega
  clear hx h1 hb
  by_cases hm : m = 0
  · subst hm
    go_enter Tryz.func243, Tryz.ntmps243
    obtain ⟨ad, had⟩ : ∃ ad : Addr, (if cap = k then some (⟨bn, off, none⟩ : Addr) else some ⟨bn, off + k, none⟩) = some ad := by split <;> exact ⟨_, rfl⟩
    have hclr := run_clear (off := off) w.drew 0 cap k (by omega) HB.out.drew (by omega)
    simp only [Nat.add_zero, Nat.sub_zero] at hclr hlen
    go_wp2
    go_region_law (fail)
    go_wp2
    go_ret
    obtain ⟨cs6, B6, S6, V6, U6, G6⟩ := put_cells (o := off) (vs := List.replicate k (.slice none 0 0)) HB.out.drew (by simp; omega)
    refine ⟨rfl, cs6, B6, S6, ?_, (Chg.refl _ w).drew.trans G6 (by simp)⟩
    intro j u hu
    rw [List.drop_eq_nil_of_le (by omega)] at hu
    simp at hu
  · have hck : ¬ cap = k := by omega
    have hck' : ¬ cap = m := by omega
    go_enter Tryz.func243, Tryz.ntmps243
    go_wp2
    have hl : (xs.drop k).length = m * 1 := by rw [List.length_drop, hlen]; omega
    have hbel := (Blk.drew HB.out)
    go_region_law (refine step_append_room rfl (.tmp 22) (.tmp 25) 46 rfl 25 Tryz.t25 1 Tryz.underlying46 rfl rfl bn off 0 cap rfl ⟨bn, off + k, none⟩ m (cap - k) (xs.drop k) rfl hl (fun j u hu => by
      rw [Addr.add_lit, Blk.c hbel]
      rw [List.getElem?_drop] at hu
      rw [show off + k + j = off + (k + j) by omega]
      exact HX.out _ _ hu) (fun u hu => H1.out u (List.mem_of_mem_drop hu)) (by omega) (fun j hj => ⟨by rw [Blk.c hbel, Array.getElem?_eq_getElem (by omega)]; rfl, Blk.f hbel _⟩) ?_)
    obtain ⟨cs6, B6, S6, V6, U6, G6⟩ := put_cells (o := off + 0 * 1) (vs := xs.drop k) hbel (by omega)
    generalize (w.drew.setCells bn (off + 0 * 1) (xs.drop k)) = w6 at *
    have hclr := run_clear (off := off) w6 m cap k (by omega) B6 (by omega)
    go_wp2
    go_ret
    obtain ⟨cs7, B7, S7, V7, U7, G7⟩ := put_cells (o := off + m) (vs := List.replicate k (.slice none 0 0)) B6 (by simp; omega)
    refine ⟨rfl, cs7, B7, by omega, ?_, ((Chg.refl _ w).drew.trans G6 (by simp)).trans G7 (by simp)⟩
    intro j u hu
    have hj := (List.getElem?_eq_some_iff.1 hu).1
    rw [U7 _ (.inl (by omega))]
    have := V6 j u hu
    simpa using this
end
/-! ### The walks of package hold, the last: answers. -/
section
open Go Go.RowKit
set_option linter.unusedVariables false
set_option maxHeartbeats 1000000
set_option maxRecDepth 100000
theorem Row.cut {w w1 : World} {e : TypeId} {bn off k m cap : Nat} {cs' : Array Value} {xs : List Value} (hl : xs.length = k + m) (hcap : m ≤ cap) (hmax : cap ≤ maxLen) (hb : Blk w1 bn cs' e) (hs : off + cap ≤ cs'.size)
    (hx : ∀ j u, (xs.drop k)[j]? = some u → cs'[off + j]? = some u) : Row w1 e 1 (.slice (some ⟨bn, off, none⟩) m cap) m (xs.drop k) :=
  ⟨by rw [List.length_drop]; omega, .inr ⟨bn, off, cap, cs', rfl, hcap, hmax, hb, by omega, hx⟩⟩
theorem Delete_c {w : World} {v : Value} {xs : List Oct} (h : MsgV w v xs) (k : Nat) (hk : k ≤ xs.length) (hl : xs.length ≤ 1000) :
    Calls Tryz.prog 243 #[v, .int .i64 0, .int .i64 k] w fun e w' => ∃ v', e = .returned v' ∧ MsgV w' v' (xs.drop k) ∧ Chg (own v) w w' ∧ ∀ g ∈ own v', g ∈ own v := by
  by_cases h0 : k = 0
  · subst h0
    obtain ⟨a1, c1, rfl, hcs⟩ := h.shape
    have HH := Lib.hid h
    clear h
    go_enter Tryz.func243, Tryz.ntmps243
    go_wp2
    go_ret
    exact ⟨_, rfl, HH.out, Chg.refl _ _, fun g hg => hg⟩
  · obtain ⟨vs, hr, hm⟩ := h
    have hlen := hr.1
    rcases id hr.2 with ⟨rfl, hn⟩ | ⟨bn, off, cap, cs, rfl, h1, h2, h3, h4, h5⟩
    · omega
    have one : ∀ u ∈ vs, u.oneCell' = true := by
      intro u hu
      obtain ⟨j, hj, rfl⟩ := List.getElem_of_mem hu
      obtain ⟨u', h6, h7⟩ := hm j (xs[j]'(by omega)) (List.getElem?_eq_getElem (by omega))
      rw [List.getElem?_eq_getElem hj] at h6
      simp only [Option.some.injEq] at h6
      obtain ⟨a, c, h8, _⟩ := h7.1.shape
      rw [h6, h8]
      rfl
    obtain ⟨m, hm'⟩ : ∃ m, xs.length = k + m := ⟨xs.length - k, by omega⟩
    have D := Delete_n (w := w) (bn := bn) (off := off) (k := k) (m := m) (cap := cap) (xs := vs) h3 (by omega) h2 (by omega) (by omega) (by omega) h5 one
    rw [← hm'] at D
    refine D.mono ?_
    rintro e w' ⟨rfl, cs', B, S, X, G⟩
    have off' : Off w 5 [bn] := fun g hg => ⟨_, _, (by simpa using hg : g = bn) ▸ h3, by decide⟩
    refine ⟨_, rfl, ⟨vs.drop k, ?_, fun j x hx => ?_⟩, by simpa [own, Value.ownBlock] using G, by simp [own, Value.ownBlock]⟩
    · have := Row.cut (w := w) (m := m) (hl := by omega) (by omega) h2 B (by omega) X
      simpa [hm'] using this
    · rw [List.getElem?_drop] at hx ⊢
      obtain ⟨u, h6, h7⟩ := hm _ x hx
      exact ⟨u, h6, h7.stay off' G⟩
theorem HoAt.mk23 {w : World} {b : Nat} {h : Ho} {vs vn v' : Value} {f : Int} {sent : List Oct} (hb : Blk w b #[.int .i64 h.most, .int .i64 h.oc, vs, .int .u8 h.first, vn] 200) (hs : MsgV w v' sent) (hv : MsgV w vn h.next) (ha : ∀ g ∈ own v', g ∉ own vn) :
    HoAt ((w.setCell ⟨b, 2, none⟩ v').setCell ⟨b, 3, none⟩ (.int .u8 f)) b ⟨h.most, h.oc, sent, f, h.next⟩ v' vn := by
  have hc : Chg [b] w ((w.setCell ⟨b, 2, none⟩ v').setCell ⟨b, 3, none⟩ (.int .u8 f)) := ((Chg.refl _ _).set (by simp) _).set (by simp) _
  have ho : Off w 5 [b] := fun g hg => ⟨_, _, (by simpa using hg : g = b) ▸ hb, by decide⟩
  have hne : ∀ {v : Value} {l : List Oct}, MsgV w v l → ∀ g ∈ own v, g ∉ [b] := by
    intro v l hv g hg
    simp only [List.mem_singleton]
    rintro rfl
    obtain ⟨cs, h1⟩ := hv.row.choose_spec.blk g hg
    exact hb.ne h1 (by decide) rfl
  exact ⟨((hb.set 2 v').set 3 _).as (by simp), hs.stay ho hc (hne hs), hv.stay ho hc (hne hv), ha⟩
theorem Free_c {w : World} {b : Nat} {h : Ho} {vs vn : Value} (hh : HoAt w b h vs vn) (ho : h.ok) (n : Int) (h0 : 0 ≤ n) (h1 : n ≤ 255) :
    Calls Tryz.prog 237 #[.pointer (some ⟨b, 0, none⟩), .int .u8 n] w fun e w' => e = .returned (.tuple #[.int .i64 (h.free n).2.1, .int .i64 (h.free n).2.2]) ∧
      ∃ vs', HoAt w' b (h.free n).1 vs' vn ∧ Chg (hoF b vs vn) w w' ∧ ∀ g ∈ own vs', g ∈ own vs := by
  have HH := Lib.hid hh
  have HO := Lib.hid ho
  have D := Lib.hid (HKnows_c hh ho n h0 h1)
  have l2 := ho.first
  have l1 := ho.sent
  clear hh ho
  cases hk : h.knows n
  · have e : h.free n = (h, 0, 10) := by simp [Ho.free, hk]
    rw [hk] at D
    have E := Lib.hid e
    clear e
    go_enter Tryz.func237, Tryz.ntmps237
    go_wp2_with (first | ((with_reducible refine D.out.mono ?_); rintro e w1 ⟨rfl, hb1⟩))
    go_ret2
    rw [E.out]
    exact ⟨rfl, _, HH.out.below hb1, .of_below hb1 _, fun g hg => hg⟩
  · have e : h.free n = (⟨h.most, h.oc, h.sent.drop (h.gap n).toNat, (n + 1) % 128, h.next⟩, h.gap n, 0) := by simp [Ho.free, hk]
    have hg := Ho.gap_le HO.out hk
    obtain ⟨k, hgk⟩ : ∃ k : Nat, h.gap n = k := ⟨(h.gap n).toNat, by omega⟩
    have hkl : k ≤ h.sent.length := by omega
    rw [hgk] at e
    simp only [Int.toNat_natCast] at e
    rw [hk] at D
    have E := Lib.hid e
    have C1 := Lib.hid fun w' => show Calls Tryz.prog 173 #[.int .u8 h.first] w' (fun e w1 => e = .returned (.int .u8 h.prev) ∧ w' = w1) from Prev_c h.first w' (by omega) (by omega)
    have C2 := Lib.hid fun w' => show Calls Tryz.prog 172 #[.int .u8 h.prev, .int .u8 n] w' (fun e w1 => e = .returned (.int .i64 k) ∧ w' = w1) from hgk ▸ Gap_c h.prev n w' (by simp only [Ho.prev]; omega) (by simp only [Ho.prev]; omega) h0 h1
    have C3 := Lib.hid fun w' => Next_c n w' h0 h1
    clear e hg hgk
    go_enter Tryz.func237, Tryz.ntmps237
    go_wp2_with (first
      | ((with_reducible refine D.out.mono ?_); rintro e w1 ⟨rfl, hb1⟩; (have H1 := Lib.hid (HH.out.below hb1)); (have hc1 := H1.out.blk.c); (have hf1 := H1.out.blk.f))
      | ((with_reducible refine (C1.out _).mono ?_); rintro e w2 ⟨rfl, rfl⟩)
      | ((with_reducible refine (C2.out _).mono ?_); rintro e w2 ⟨rfl, rfl⟩)
      | ((with_reducible refine (C3.out _).mono ?_); rintro e w2 ⟨rfl, rfl⟩)
      | ((with_reducible refine (Delete_c H1.out.sent k hkl (by omega)).mono ?_); rintro e w3 ⟨v3, rfl, M3, G3, own3⟩; (obtain ⟨a3, c3, rfl, hc3⟩ := M3.shape); (have HM3 := Lib.hid M3); clear M3; (have hc3' := (H1.out.blk.chg G3 H1.out.sne).c); (have hf3' := (H1.out.blk.chg G3 H1.out.sne).f)))
    go_ret2
    rw [E.out]
    have e3 : (h.sent.drop k).length = h.sent.length - k := List.length_drop
    have M3 := HM3.out
    have o3 := own3
    rw [e3] at M3 o3
    have off1 : Off w1 5 (own vs) := fun g hg => H1.out.off g (by simp [hg])
    refine ⟨rfl, _, HoAt.mk23 (H1.out.blk.chg G3 H1.out.sne) M3 (H1.out.next.stay off1 G3 (fun g hg hg' => H1.out.apart g hg' hg)) (fun g hg hg' => H1.out.apart g (o3 g hg) hg'), ?_, o3⟩
    exact (((Chg.of_below hb1 _).trans (G3.more (G := hoF b vs vn) (fun g hg => List.mem_cons_of_mem _ (List.mem_append_left _ hg))) (fun g hg => .inl hg)).set (.inl (by simp)) _).set (.inl (by simp)) _
end
end Go.Proofs.YtcllbmjmefeknaaGreatK
