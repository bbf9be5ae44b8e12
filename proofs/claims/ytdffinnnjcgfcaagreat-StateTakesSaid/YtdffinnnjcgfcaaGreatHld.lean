/- The walks of package hold. -/
import Derived.Test.YtdffinnnjcgfcaaGreatRw
import Derived.Test.YtdffinnnjcgfcaaGreatRng
import Derived.Test.YtdffinnnjcgfcaaGreatM3
import Derived.Deep.RegionHeld3
namespace Go.Proofs.YtdffinnnjcgfcaaGreatK
open Go Go.RowKit
set_option linter.unusedVariables false
set_option maxHeartbeats 1000000
set_option maxRecDepth 100000
/-- No block of F holds octets. -/
def Off (w : World) (u8 : TypeId) (F : List Nat) : Prop := ∀ b ∈ F, ∃ cs t, Blk w b cs t ∧ t ≠ u8
theorem Row.blk {w : World} {e : TypeId} {sz n : Nat} {v : Value} {xs : List Value} (h : Row w e sz v n xs) : ∀ b ∈ own v, ∃ cs, Blk w b cs e := by
  intro b hb
  rcases h.2 with ⟨rfl, _⟩ | ⟨b', off, cap, cs, rfl, h1, h2, h3, h4, h5⟩
  · simp [own, Value.ownBlock] at hb
  · simp [own, Value.ownBlock] at hb
    subst hb
    exact ⟨cs, h3⟩
theorem Byt.stay {w w1 : World} {u8 : TypeId} {v : Value} {xs : List Int} {F : List Nat} (h : Byt w u8 v xs) (hF : Off w u8 F) (hc : Chg F w w1) : Byt w1 u8 v xs :=
  h.chg hc fun b hb hbF => by
    obtain ⟨cs, h1⟩ := h.1.blk b hb
    obtain ⟨cs', t, h2, h3⟩ := hF b hbF
    exact h2.ne h1 h3 rfl
theorem Msgs.stay {w w1 : World} {u8 by_ : TypeId} {v : Value} {xs : List Oct} {F : List Nat} (h : Msgs w u8 by_ v xs) (hF : Off w u8 F) (hc : Chg F w w1) (hn : ∀ b ∈ own v, b ∉ F) : Msgs w1 u8 by_ v xs := by
  obtain ⟨vs, h1, h2⟩ := h
  refine ⟨vs, h1.chg hc hn, fun j x hx => ?_⟩
  obtain ⟨u, h3, h4⟩ := h2 j x hx
  exact ⟨u, h3, h4.stay hF hc⟩
theorem Msgs.below {w w1 : World} {u8 by_ : TypeId} {v : Value} {xs : List Oct} (h : Msgs w u8 by_ v xs) (hb : Below w.heap.size w w1) : Msgs w1 u8 by_ v xs :=
  h.stay (F := []) (by simp [Off]) (.of_below hb []) (by simp)
theorem Off.below {w w1 : World} {u8 : TypeId} {F : List Nat} (h : Off w u8 F) (hb : Below w.heap.size w w1) : Off w1 u8 F := fun g hg => by
  obtain ⟨cs, t, h1, h2⟩ := h g hg
  exact ⟨cs, t, h1.below hb, h2⟩
abbrev BytV (w : World) (v : Value) (xs : Oct) : Prop := Byt w 5 v xs
/-- Octets that came from wherever: a slice that can be read, in a block that is none of F. -/
def BytI (w : World) (F : List Nat) (v : Value) (xs : Oct) : Prop :=
  ((v = .slice none 0 0 ∧ xs = []) ∨ (∃ a cap, v = .slice (some a) 0 cap ∧ xs = []) ∨ ∃ b off cap, v = .slice (some ⟨b, off, none⟩) xs.length cap ∧ xs.length ≤ cap ∧ b < w.heap.size ∧ b ∉ F ∧ ∀ j u, (xs.map (Value.int .u8))[j]? = some u → w.cell? ⟨b, off + j, none⟩ = some u) ∧ ∀ x ∈ xs, 0 ≤ x ∧ x ≤ 255
theorem BytI.shape {w : World} {F : List Nat} {v : Value} {xs : Oct} (h : BytI w F v xs) : ∃ a cap, v = .slice a xs.length cap ∧ xs.length ≤ cap := by
  rcases h.1 with ⟨rfl, rfl⟩ | ⟨a, cap, rfl, rfl⟩ | ⟨b, off, cap, rfl, h1, _⟩
  · exact ⟨none, 0, rfl, Nat.le_refl _⟩
  · exact ⟨_, cap, rfl, Nat.zero_le _⟩
  · exact ⟨_, cap, rfl, h1⟩
theorem BytI.chg {w w1 : World} {F G : List Nat} {v : Value} {xs : Oct} (h : BytI w F v xs) (hc : Chg G w w1) (hG : ∀ k ∈ G, k ∈ F) : BytI w1 F v xs := by
  refine ⟨?_, h.2⟩
  rcases h.1 with h1 | h1 | ⟨b, off, cap, e, h1, h2, h3, h4⟩
  · exact .inl h1
  · exact .inr (.inl h1)
  · refine .inr (.inr ⟨b, off, cap, e, h1, Nat.lt_of_lt_of_le h2 hc.size, h3, fun j u hu => ?_⟩)
    rw [← h4 j u hu]
    simp only [World.cell?, hc.blk b h2 (fun hg => h3 (hG b hg))]
theorem BytI.below {w w1 : World} {F : List Nat} {v : Value} {xs : Oct} (h : BytI w F v xs) (hb : Below w.heap.size w w1) : BytI w1 F v xs := h.chg (G := []) (.of_below hb _) (by simp)
theorem BytI.mono {w : World} {F G : List Nat} {v : Value} {xs : Oct} (h : BytI w F v xs) (hG : ∀ k ∈ G, k ∈ F ∨ w.heap.size ≤ k) : BytI w G v xs := by
  refine ⟨?_, h.2⟩
  rcases h.1 with h1 | h1 | ⟨b, off, cap, e, h1, h2, h3, h4⟩
  · exact .inl h1
  · exact .inr (.inl h1)
  · refine .inr (.inr ⟨b, off, cap, e, h1, h2, fun hg => ?_, h4⟩)
    rcases hG b hg with h | h
    · exact h3 h
    · omega
theorem BytI.mono2 {w w1 : World} {F G : List Nat} {v : Value} {xs : Oct} (h : BytI w1 F v xs) (k : BytI w G v xs) : BytI w1 G v xs := by
  refine ⟨?_, h.2⟩
  rcases h.1 with h1 | h1 | ⟨b, off, cap, e, h1, h2, h3, h4⟩
  · exact .inl h1
  · exact .inr (.inl h1)
  · rcases k.1 with ⟨k1, _⟩ | ⟨a', cap', e', k1⟩ | ⟨b', off', cap', e', _, _, k3, _⟩
    · rw [k1] at e; cases e
    · exact .inr (.inl ⟨a', cap', e', k1⟩)
    · rw [e] at e'
      simp only [Value.slice.injEq, Option.some.injEq, Addr.mk.injEq, and_true, true_and] at e'
      exact .inr (.inr ⟨b, off, cap, e, h1, h2, by rw [e'.1.1]; exact k3, h4⟩)
abbrev MsgV (w : World) (v : Value) (xs : List Oct) : Prop := Msgs w 5 27 v xs
structure HoAt (w : World) (b : Nat) (h : Ho) (vs vn : Value) : Prop where
  blk : Blk w b #[.int .i64 h.most, .int .i64 h.oc, vs, .int .u8 h.first, vn] 134
  sent : MsgV w vs h.sent
  next : MsgV w vn h.next
  apart : ∀ b ∈ own vs, b ∉ own vn
abbrev hoF (b : Nat) (vs vn : Value) : List Nat := b :: (own vs ++ own vn)
theorem MsgV.row {w : World} {v : Value} {xs : List Oct} (h : MsgV w v xs) : ∃ vs, Row w 27 1 v xs.length vs := ⟨h.choose, h.choose_spec.1⟩
theorem MsgV.shape {w : World} {v : Value} {xs : List Oct} (h : MsgV w v xs) : ∃ a cap, v = .slice a xs.length cap ∧ xs.length ≤ cap := h.choose_spec.1.shape
theorem Byt.i {w : World} {F : List Nat} {v : Value} {xs : Oct} (h : BytV w v xs) (hF : Off w 5 F) : BytI w F v xs := by
  refine ⟨?_, h.2⟩
  rcases h.1.2 with ⟨rfl, hn⟩ | ⟨b, off, cap, cs, rfl, h1, h2, h3, h4, h5⟩
  · exact .inl ⟨rfl, List.eq_nil_of_length_eq_zero hn⟩
  · refine .inr (.inr ⟨b, off, cap, rfl, h1, h3.lt, fun hg => ?_, fun j u hu => by rw [h3.c]; exact h5 j u hu⟩)
    obtain ⟨cs', t, h6, h7⟩ := hF b hg
    exact h6.ne h3 h7 rfl
theorem Byt.i0 {w : World} {v : Value} {xs : Oct} (h : BytV w v xs) : BytI w [] v xs := h.i (by simp [Off])
theorem BytV.shape {w : World} {v : Value} {xs : Oct} (h : BytV w v xs) : ∃ a cap, v = .slice a xs.length cap ∧ xs.length ≤ cap := h.1.shape
theorem HoAt.off {w : World} {b : Nat} {h : Ho} {vs vn : Value} (hh : HoAt w b h vs vn) : Off w 5 (hoF b vs vn) := by
  intro g hg
  rcases List.mem_cons.1 hg with rfl | hg
  · exact ⟨_, _, hh.blk, by decide⟩
  rcases List.mem_append.1 hg with hg | hg
  · obtain ⟨cs, h1⟩ := hh.sent.row.choose_spec.blk g hg
    exact ⟨cs, _, h1, by decide⟩
  · obtain ⟨cs, h1⟩ := hh.next.row.choose_spec.blk g hg
    exact ⟨cs, _, h1, by decide⟩
theorem HoAt.sne {w : World} {b : Nat} {h : Ho} {vs vn : Value} (hh : HoAt w b h vs vn) : b ∉ own vs := fun hg => by
  obtain ⟨cs, h1⟩ := hh.sent.row.choose_spec.blk b hg
  exact hh.blk.ne h1 (by decide) rfl
theorem HoAt.nne {w : World} {b : Nat} {h : Ho} {vs vn : Value} (hh : HoAt w b h vs vn) : b ∉ own vn := fun hg => by
  obtain ⟨cs, h1⟩ := hh.next.row.choose_spec.blk b hg
  exact hh.blk.ne h1 (by decide) rfl
theorem HoAt.stay {w w1 : World} {b : Nat} {h : Ho} {vs vn : Value} {F : List Nat} (hh : HoAt w b h vs vn) (hF : Off w 5 F) (hc : Chg F w w1) (hn : ∀ g ∈ hoF b vs vn, g ∉ F) : HoAt w1 b h vs vn :=
  ⟨hh.blk.chg hc (hn b (by simp)), hh.sent.stay hF hc (fun g hg => hn g (by simp [hg])), hh.next.stay hF hc (fun g hg => hn g (by simp [hg])), hh.apart⟩
theorem HoAt.below {w w1 : World} {b : Nat} {h : Ho} {vs vn : Value} (hh : HoAt w b h vs vn) (hb : Below w.heap.size w w1) : HoAt w1 b h vs vn :=
  hh.stay (F := []) (by simp [Off]) (.of_below hb []) (by simp)
theorem HSent_c {w : World} {b : Nat} {h : Ho} {vs vn : Value} (hh : HoAt w b h vs vn) :
    Calls Tryz.prog 32 #[.pointer (some ⟨b, 0, none⟩)] w fun e w' => e = .returned (.int .i64 h.sent.length) ∧ w = w' := by
  obtain ⟨a, cap, rfl, _⟩ := hh.sent.shape
  have hc := hh.blk.c
  have hf := hh.blk.f
  clear hh
  go_enter Tryz.func32, Tryz.ntmps32
  go_wp2
  go_ret
  exact ⟨rfl, rfl⟩
theorem HNext_c {w : World} {b : Nat} {h : Ho} {vs vn : Value} (hh : HoAt w b h vs vn) :
    Calls Tryz.prog 38 #[.pointer (some ⟨b, 0, none⟩)] w fun e w' => e = .returned (.int .i64 h.next.length) ∧ w = w' := by
  obtain ⟨a, cap, rfl, _⟩ := hh.next.shape
  have hc := hh.blk.c
  have hf := hh.blk.f
  clear hh
  go_enter Tryz.func38, Tryz.ntmps38
  go_wp2
  go_ret
  exact ⟨rfl, rfl⟩
theorem HFirst_c {w : World} {b : Nat} {h : Ho} {vs vn : Value} (hh : HoAt w b h vs vn) :
    Calls Tryz.prog 52 #[.pointer (some ⟨b, 0, none⟩)] w fun e w' => e = .returned (.int .u8 h.first) ∧ w = w' := by
  have hc := hh.blk.c
  have hf := hh.blk.f
  clear hh
  go_enter Tryz.func52, Tryz.ntmps52
  go_wp2
  go_ret
  exact ⟨rfl, rfl⟩
theorem size_c {w : World} {v : Value} {xs : List Oct} (h : MsgV w v xs) (hlen : xs.length ≤ 1000) (ho : octs xs ≤ 2000000) :
    Calls Tryz.prog 91 #[v] w fun e w' => e = .returned (.int .i64 (octs xs)) ∧ w = w' := by
  obtain ⟨vs, ⟨hl, hr⟩, hm⟩ := h
  rcases hr with ⟨rfl, hn⟩ | ⟨bl, off, cap, cs, rfl, h1, h2, h3, h4, h5⟩
  · have : xs = [] := List.eq_nil_of_length_eq_zero hn
    subst this
    go_enter Tryz.func91, Tryz.ntmps91
    go_wp2
    go_loopw [3, 5, 8] (fun n _ i wr => n = .int .i64 0 ∧ i = .int .i64 0 ∧ w = wr) (fun _ _ i _ => 0)
    case atStart => exact ⟨rfl, rfl, rfl⟩
    case round =>
      obtain ⟨rfl, rfl, rfl⟩ := hrel
      go_wp2
      go_ret
      exact ⟨rfl, rfl⟩
  · go_enter Tryz.func91, Tryz.ntmps91
    go_wp2
    go_loopw [3, 5, 8] (fun n _ i wr => ∃ k : Nat, k ≤ xs.length ∧ i = .int .i64 k ∧ n = .int .i64 (octs (xs.take k) : Nat) ∧ w = wr) (fun _ _ i _ => xs.length - (intOf i).toNat)
    case atStart => exact ⟨0, Nat.zero_le _, rfl, rfl, rfl⟩
    case round =>
      obtain ⟨k, hk, rfl, rfl, rfl⟩ := hrel
      by_cases hlt : k < xs.length
      · obtain ⟨u, hu, hB⟩ := hm k xs[k] (List.getElem?_eq_getElem hlt)
        obtain ⟨au, cu, rfl, hcu⟩ := hB.1.shape
        have hcell : w.cell? ⟨bl, off + k, none⟩ = some (.slice au xs[k].length cu) := by rw [h3.c]; exact h5 k _ hu
        have hO := octs_snoc xs k hlt
        have hO1 := octs_take_le xs k
        have hO2 := octs_take_le xs (k + 1)
        clear hm hB hu h5 h3
        go_wp2
        go_roundw
        case rel => exact ⟨k + 1, by omega, by go_num, by rw [hO]; go_num, by first | rfl | trivial⟩
        case measure => simp [intOf]; omega
      · have : k = xs.length := by omega
        subst this
        rw [List.take_length] at *
        clear hm h5 h3
        go_wp2
        go_ret
        exact ⟨rfl, rfl⟩
theorem HWaiting_c {w : World} {b : Nat} {h : Ho} {vs vn : Value} (hh : HoAt w b h vs vn) (ho : h.ok) :
    Calls Tryz.prog 199 #[.pointer (some ⟨b, 0, none⟩)] w fun e w' => e = .returned (.int .i64 (octs h.sent)) ∧ w = w' := by
  have hc := hh.blk.c
  have hf := hh.blk.f
  have C := Lib.hid (size_c hh.sent (by have := ho.sent; omega) (by have := ho.octs; omega))
  clear hh ho
  go_enter Tryz.func199, Tryz.ntmps199
  go_wp2_with (first | ((with_reducible refine C.out.mono ?_); rintro e w1 ⟨rfl, rfl⟩))
  go_ret
  exact ⟨rfl, rfl⟩
theorem HOctets_c {w : World} {b : Nat} {h : Ho} {vs vn : Value} (hh : HoAt w b h vs vn) (ho : h.ok) :
    Calls Tryz.prog 43 #[.pointer (some ⟨b, 0, none⟩)] w fun e w' => e = .returned (.int .i64 h.octets) ∧ Below w.heap.size w w' := by
  have HH := Lib.hid hh
  have HO := Lib.hid ho
  have h1 := ho.octs
  clear hh ho
  have D1 := Lib.hid fun g : Up w => size_c (HH.out.below g.ok).sent (by have := HO.out.sent; omega) (by have := HO.out.octs; omega)
  have D2 := Lib.hid fun g : Up w => size_c (HH.out.below g.ok).next (by have := HO.out.all; omega) (by have := HO.out.octs; omega)
  have hblk := HH.out.blk
  go_enter Tryz.func43, Tryz.ntmps43
  go_wp2
  refine wp_region_up (by kernel_rfl) (by kernel_rfl) ?_
  have up_hblk := fun (g : Up _) => (Blk.below hblk g.ok).c
  repeat (go_big_quiet_step (first | (with_reducible exact Up.calls_same _ (D1.out _)) | (with_reducible exact Up.calls_same _ (D2.out _))))
  refine wpQuiet_nil ?_
  clear up_hblk
  refine up_elim (fun w2 hb_w2 => ?_)
  go_wp2
  go_ret
  exact ⟨rfl, hb_w2⟩
theorem HSize_c {w : World} {b : Nat} {h : Ho} {vs vn : Value} (hh : HoAt w b h vs vn) (ho : h.ok) :
    Calls Tryz.prog 200 #[.pointer (some ⟨b, 0, none⟩)] w fun e w' => e = .returned (.int .i64 h.size) ∧ w = w' := by
  have C := Lib.hid (HNext_c hh)
  obtain ⟨most, oc, sent, first, next⟩ := h
  have hc := hh.blk.c
  have hf := hh.blk.f
  have hN := hh.next
  have hlen := ho.all
  clear hh ho
  cases next with
  | nil =>
    go_enter Tryz.func200, Tryz.ntmps200
    go_wp2_with (first | ((with_reducible refine C.out.mono ?_); rintro e w1 ⟨rfl, rfl⟩))
    go_ret
    exact ⟨rfl, rfl⟩
  | cons p r =>
    obtain ⟨vs, ⟨hl, hr⟩, hm⟩ := hN
    rcases hr with ⟨rfl, hn⟩ | ⟨bl, off, cap, cs, rfl, h1, h2, h3, h4, h5⟩
    · simp at hn
    obtain ⟨u, hu, hB⟩ := hm 0 p rfl
    obtain ⟨au, cu, rfl, hcu⟩ := hB.1.shape
    have hcell : w.cell? ⟨bl, off, none⟩ = some (.slice au p.length cu) := by rw [h3.c]; exact h5 0 _ hu
    clear hm hB hu h5 h3
    simp only [List.length_cons] at *
    go_enter Tryz.func200, Tryz.ntmps200
    go_wp2_with (first | ((with_reducible refine C.out.mono ?_); rintro e w1 ⟨rfl, rfl⟩))
    go_ret
    exact ⟨rfl, rfl⟩
end Go.Proofs.YtdffinnnjcgfcaaGreatK
