/- The walks of post.New and of a terminal's small functions. -/
import Derived.Test.YtdffinnnjcgfcaaGreatTe6
import Derived.Test.YtdffinnnjcgfcaaGreatFe9
namespace Go.Proofs.YtdffinnnjcgfcaaGreatK
open Go Go.RowKit
set_option linter.unusedVariables false
set_option maxHeartbeats 20000000
set_option maxRecDepth 100000
theorem new_po {w w5 : World} {s : Su} {bx : Nat} {M : Lay} {vo : Value} (B : Below w.heap.size w w5) (S : StAt w5 bx (St.new s) M) (O : BitV w5 vo flagB) (hF : ∀ k ∈ stF bx M, w.heap.size ≤ k) (hO : ∀ k ∈ own vo, w.heap.size ≤ k) :
    ∃ L, PoAt (w5.alloc (.cells ((Po.new s).cells ⟨bx, M, .slice none 0 0, vo, .slice none 0 0, .slice none 0 0, .slice none 0 0⟩) 151)) w5.heap.size (Po.new s) L ∧ Below w.heap.size w (w5.alloc (.cells ((Po.new s).cells ⟨bx, M, .slice none 0 0, vo, .slice none 0 0, .slice none 0 0, .slice none 0 0⟩) 151)) ∧ ∀ k ∈ poF w5.heap.size L, w.heap.size ≤ k := by
  have ba := bl_alloc (bl_refl w5) (.cells ((Po.new s).cells ⟨bx, M, .slice none 0 0, vo, .slice none 0 0, .slice none 0 0, .slice none 0 0⟩) 151)
  refine ⟨⟨bx, M, .slice none 0 0, vo, .slice none 0 0, .slice none 0 0, .slice none 0 0⟩, ⟨Blk.new _ _ _, S.below ba, BitV.nil _, O.below ba, byt_nil, fun _ => rfl, Sents.nil, Cames.nil, by simp [own, Value.ownBlock]⟩, bl_then B ba, fun k hk => ?_⟩
  rw [mem6] at hk
  rcases hk with h | h | h | h | h | h
  · have := B.size; omega
  · exact hF k h
  · exact absurd (show k ∈ ([] : List Nat) from h) (by simp)
  · exact hO k h
  · exact absurd (show k ∈ ([] : List Nat) from h) (by simp)
  · exact absurd (show k ∈ ([] : List Nat) from h) (by simp)
theorem PNew_c (s : Su) (w : World) (HC : ∀ w, Calls Tryz.prog 54 #[s.v] w fun e w' => e = .returned (.int .i64 0) ∧ Below w.heap.size w w') :
    Calls Tryz.prog 56 #[s.v] w fun e w' => ∃ b, e = .returned (.tuple #[.pointer (some ⟨b, 0, none⟩), .int .i64 0]) ∧ ∃ L, PoAt w' b (Po.new s) L ∧ Below w.heap.size w w' ∧ ∀ k ∈ poF b L, w.heap.size ≤ k := by
  have HC := Lib.hid HC
  have HS := Lib.hid (fun w => SNew_c s w)
  obtain ⟨cyc, n1, n2, hd, oc, t0, t1, t2, t3, t4, t5, t6, t7⟩ := s
  have B0 := Lib.hid (bl_alloc (bl_refl w) (.cells #[.bool cyc, .int .i64 n1, .int .i64 n2, .int .i64 hd, .int .i64 oc, .int .i64 t0, .int .i64 t1, .int .i64 t2, .int .i64 t3, .int .i64 t4, .int .i64 t5, .int .i64 t6, .int .i64 t7] 37))
  have K0 := Lib.hid (Blk.new w #[.bool cyc, .int .i64 n1, .int .i64 n2, .int .i64 hd, .int .i64 oc, .int .i64 t0, .int .i64 t1, .int .i64 t2, .int .i64 t3, .int .i64 t4, .int .i64 t5, .int .i64 t6, .int .i64 t7] 37)
  go_enter Tryz.func56, Tryz.ntmps56
  go_upto_region 4 with (first
    | ((with_reducible refine (HC.out _).mono ?_); rintro e w2 ⟨rfl, b2⟩; have B2 := Lib.hid (bl_then B0.out b2); have K2 := Lib.hid (K0.out.below b2); have k2c := K2.out.c; clear b2))
  have BD := Lib.hid (bl_drew B2.out)
  have KD := Lib.hid K2.out.drew
  have kdc := KD.out.c
  obtain ⟨nw, hnw⟩ : ∃ nw, w.heap.size = nw := ⟨_, rfl⟩
  rw [hnw] at kdc KD ⊢
  clear k2c
  go_region_held3 (fun w' => ∀ i, w'.cell? ⟨nw, i, none⟩ = (#[.bool cyc, .int .i64 n1, .int .i64 n2, .int .i64 hd, .int .i64 oc, .int .i64 t0, .int .i64 t1, .int .i64 t2, .int .i64 t3, .int .i64 t4, .int .i64 t5, .int .i64 t6, .int .i64 t7] : Array Value)[i]?) (first | exact kdc | exact k4c | exact k5c | exact (Blk.alloc K5.out _).c | go_keep) (first
    | ((with_reducible refine (HS.out _).mono ?_); rintro e w4 ⟨bx, M, rfl, S4, b4, f4⟩; have HS4 := Lib.hid S4; have HF4 := Lib.hid f4; have HB4 := Lib.hid b4; have K4 := Lib.hid (KD.out.below b4); have k4c := (KD.out.below b4).c; clear S4 f4 b4)
    | ((with_reducible refine (Flag_c _).mono ?_); rintro e w5 ⟨vo, rfl, A5⟩; (obtain ⟨ao, co, rfl, _⟩ := A5.bits.shape); have HA5 := Lib.hid A5; have K5 := Lib.hid (K4.out.below A5.bel); have k5c := (K4.out.below A5.bel).c; clear A5))
  all_goals
    go_wp2
    go_ret2
    subst hnw
    exact ⟨_, rfl, new_po (bl_then (bl_then BD.out HB4.out) HA5.out.bel) (HS4.out.below HA5.out.bel) HA5.out.bits (fun k hk => Nat.le_trans BD.out.size (HF4.out k hk)) (fun k hk => Nat.le_trans (Nat.le_trans BD.out.size HB4.out.size) (HA5.out.own k hk))⟩
/-! ### Small functions -/
theorem PSent_c {w : World} {b : Nat} {p : Po} {L : PoL} (h : PoAt w b p L) : Calls Tryz.prog 60 #[.pointer (some ⟨b, 0, none⟩)] w fun e w' => e = .returned L.vs ∧ w = w' := by
  obtain ⟨a, c, e, _⟩ := h.sn.shape
  have hc := h.blk.c
  dsimp only [Po.cells] at hc
  rw [e] at hc ⊢
  clear h e
  go_enter Tryz.func60, Tryz.ntmps60
  go_wp2
  go_ret
  exact ⟨rfl, rfl⟩
theorem PCame_c {w : World} {b : Nat} {p : Po} {L : PoL} (h : PoAt w b p L) : Calls Tryz.prog 65 #[.pointer (some ⟨b, 0, none⟩)] w fun e w' => e = .returned L.vg ∧ w = w' := by
  obtain ⟨a, c, e, _⟩ := h.gt.shape
  have hc := h.blk.c
  dsimp only [Po.cells] at hc
  rw [e] at hc ⊢
  clear h e
  go_enter Tryz.func65, Tryz.ntmps65
  go_wp2
  go_ret
  exact ⟨rfl, rfl⟩
theorem POrder_c {w : World} {b : Nat} {F : List Nat} {p : Po} {L : PoL} {vp : Value} {o : Oct} (h : PoAt w b p L) (hk : p.x.ok) (hf : p.x.few 900000) (k : Int) (hv : BytI w F vp o) (hl : o.length ≤ 100000) :
    Calls Tryz.prog 57 #[.pointer (some ⟨b, 0, none⟩), .agg #[.int .u8 k, vp]] w fun e w' => e = .returned (.int .i64 (p.x.order k o).2) ∧ PoTo w w' b { p with x := (p.x.order k o).1 } L := by
  obtain ⟨ap, cp, rfl, _⟩ := hv.shape
  have B1 := Lib.hid (bl_alloc (bl_refl w) (.cells #[.int .u8 k, .slice ap o.length cp] 29))
  have H1 := Lib.hid (h.below B1.out)
  have HV := Lib.hid hv
  have HK := Lib.hid hk
  have HF := Lib.hid hf
  have HL := Lib.hid hl
  have K1 := H1.out.blk
  have N1 := Blk.new w #[.int .u8 k, .slice ap o.length cp] 29
  clear h hv
  go_enter Tryz.func57, Tryz.ntmps57
  go_upto_region 3 with fail
  refine wp_region_up_tail 5 (by kernel_rfl) (by kernel_rfl) ?_
  simp only [List.take_succ_cons, List.take_zero, List.drop_succ_cons, List.drop_zero]
  have up_K1 := fun (g : Up _) => (Blk.below K1 g.ok).c
  have up_N1 := fun (g : Up _) => (Blk.below N1 g.ok).c
  repeat (go_big_quiet_step (fail))
  refine wpQuiet_nil ?_
  clear up_K1 up_N1
  refine up_elim (fun w5 hb_w5 => ?_)
  have H5 := Lib.hid (H1.out.below hb_w5)
  have HO := Lib.hid (Order_c H5.out.lk HK.out HF.out k ((HV.out.below B1.out).below hb_w5) HL.out)
  clear K1 N1
  go_wp2_with (first
    | ((with_reducible refine HO.out.mono ?_); rintro e w6 ⟨rfl, T6⟩))
  go_ret
  exact ⟨rfl, PoTo.stepB (bl_then B1.out hb_w5) (PoTo.byX H5.out T6)⟩
end Go.Proofs.YtdffinnnjcgfcaaGreatK
