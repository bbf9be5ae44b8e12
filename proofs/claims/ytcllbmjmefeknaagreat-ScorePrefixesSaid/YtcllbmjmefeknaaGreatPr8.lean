/- The walk of Pair.Watch. -/
import Derived.Test.YtcllbmjmefeknaaGreatPr7
namespace Go.Proofs.YtcllbmjmefeknaaGreatK
open Go Go.RowKit
set_option linter.unusedVariables false
set_option maxHeartbeats 40000000
set_option maxRecDepth 100000
abbrev wtV (t : TypeId × Nat) : Value := .iface t.1 (.pointer (some ⟨t.2, 0, none⟩))
theorem PrAt.watch {w w1 : World} {b : Nat} {x : Pr} {L : PrL} {ws : List (TypeId × Nat)} {t : TypeId × Nat} {v : Value} (P : PrAt w b x L ws) (B : Blk w1 b (x.cells { L with vw := v }) 128) (R : Row w1 142 1 v (ws.length + 1) (ws.map wtV ++ [wtV t])) (G : Chg (b :: own L.vw) w w1) (O : ∀ k ∈ own v, k ∈ own L.vw ∨ w.heap.size ≤ k) :
    PrAt w1 b x { L with vw := v } (ws ++ [t]) ∧ Chg (prF b L) w w1 ∧ ∀ k ∈ prF b { L with vw := v }, k ∈ prF b L ∨ w.heap.size ≤ k := by
  have T : Typed w (b :: own L.vw) ([128] ++ [142]) := (Typed.one P.blk).app (Typed.row P.wt)
  have D : ∀ {F : List Nat} {us : List TypeId}, Typed w F us → 128 ∉ us → 142 ∉ us → ∀ k ∈ F, k ∉ b :: own L.vw := fun TF h1 h2 k hk hb => by
    rcases List.mem_cons.1 hb with rfl | hb
    · exact (TF.off h1).notin P.blk hk
    · obtain ⟨cs, h9⟩ := P.wt.blk k hb
      exact (TF.off h2).notin h9 hk
  refine ⟨⟨B, P.n0, P.n1, P.p0.far (T.off (by decide)) (D P.p0.typed (by decide) (by decide)) G, P.p1.far (T.off (by decide)) (D P.p1.typed (by decide) (by decide)) G, P.w0.far (D P.w0.typed (by decide) (by decide)) G, P.w1.far (D P.w1.typed (by decide) (by decide)) G, ?_, P.dpp, P.d00, P.d01, P.d10, P.d11, P.dww⟩, G.more (fun k hk => ?_), fun k hk => ?_⟩
  · rw [List.length_append, List.map_append]
    exact R
  · rw [mem6]
    rcases List.mem_cons.1 hk with h | h
    · exact .inl h
    · exact .inr (.inr (.inr (.inr (.inr h))))
  · rw [mem6] at hk ⊢
    rcases hk with h | h | h | h | h | h
    · exact .inl (.inl h)
    · exact .inl (.inr (.inl h))
    · exact .inl (.inr (.inr (.inl h)))
    · exact .inl (.inr (.inr (.inr (.inl h))))
    · exact .inl (.inr (.inr (.inr (.inr (.inl h)))))
    · rcases O k h with h9 | h9
      · exact .inl (.inr (.inr (.inr (.inr (.inr h9)))))
      · exact .inr h9
theorem cells_set21 {x : Pr} {L : PrL} {v : Value} (h0 : x.n0.length = 8) (h1 : x.n1.length = 8) : (x.cells L).setIfInBounds 21 v = x.cells { L with vw := v } := by
  obtain ⟨a0, a1, a2, a3, a4, a5, a6, a7, ha⟩ := eightB h0
  obtain ⟨g0, g1, g2, g3, g4, g5, g6, g7, hg⟩ := eightB h1
  rw [Pr.cells, Pr.cells, ha, hg]
  rfl
theorem PrWatch_c {w : World} {b : Nat} {x : Pr} {L : PrL} {ws : List (TypeId × Nat)} (P : PrAt w b x L ws) (hl : ws.length ≤ 100) (T g : Nat) :
    Calls Tryz.prog 22 #[.pointer (some ⟨b, 0, none⟩), .iface T (.pointer (some ⟨g, 0, none⟩))] w fun e w' => e = .returned (.tuple #[]) ∧ ∃ v, PrAt w' b x { L with vw := v } (ws ++ [(T, g)]) ∧ Chg (prF b L) w w' ∧ ∀ k ∈ prF b { L with vw := v }, k ∈ prF b L ∨ w.heap.size ≤ k := by
  obtain ⟨av, cv, ev, hcv⟩ := P.wt.shape
  have hif : Tryz.prog.underlying 142 = some (.interface (Tryz.prog.methodsAt 142)) := by kernel_rfl
  have hne : ∀ W, (binOp .neq 142 (.iface T (.pointer (some ⟨g, 0, none⟩))) .nilIface).run Tryz.prog W = .ok (.bool true) W := fun W => run_neq_held_nil W _ T _ hif
  have hc := P.blk.c 21
  rw [cells_at21 P.n0 P.n1, ev] at hc
  have HP := Lib.hid P
  have hR := P.wt
  rw [ev] at hR
  have HR := Lib.hid hR
  have BA := Lib.hid (bl_alloc (bl_refl w) (.cells #[.iface T (.pointer (some ⟨g, 0, none⟩))] 142))
  have N1 := Lib.hid (Blk.new w #[.iface T (.pointer (some ⟨g, 0, none⟩))] 142)
  have k1c := (P.blk.below BA.out).c 21
  have k1f := (P.blk.below BA.out).f
  rw [cells_at21 P.n0 P.n1, ev] at k1c
  have HEV := Lib.hid ev
  clear P hR
  go_enter Tryz.func22, Tryz.ntmps22
  go_wp2_with (first
    | (at_builtin; refine wpList_row_append _ rfl (.tmp 14) (.tmp 16) 126 rfl 142 Tryz.t142 .nilIface 1 16 Tryz.underlying126 rfl rfl rfl rfl rfl (by decide) (.slice av ws.length cv) ws.length (ws.map wtV) rfl (HR.out.below BA.out) ⟨w.heap.size, 0, none⟩ 1 1 [.iface T (.pointer (some ⟨g, 0, none⟩))] rfl rfl (fun j u hu => by rw [Addr.add_lit, N1.out.c, Nat.zero_add]; simpa using hu) (by simp [Value.oneCell']) (by decide) (by simp [maxLen]; omega) (by omega) ?_; intro v6 w6 R6 C6 O6; (obtain ⟨a6, c6, rfl, _⟩ := R6.shape); (have HR6 := Lib.hid R6); (have HC6 := Lib.hid C6); (have HO6 := Lib.hid O6); (have B6 := (HP.out.blk.below BA.out).chg C6 (fun hb => by obtain ⟨cs, h9⟩ := HR.out.blk b hb; exact HP.out.blk.ne h9 (by decide) rfl)); (have k6c := (B6.c 21).trans (cells_at21 HP.out.n0 HP.out.n1)); (have k6f := B6.f); (have HB6 := Lib.hid B6); clear R6 C6 O6 B6))
  go_end0
  have G7 := ((Chg.of_below BA.out (b :: own L.vw)).then (HC6.out.more (fun k hk => List.mem_cons_of_mem _ (HEV.out.symm ▸ hk)))).set (b := b) (i := 21) (.inl (by simp)) (.slice a6 (ws.length + 1) c6)
  have B7 : Blk (w6.setCell ⟨b, 21, none⟩ (.slice a6 (ws.length + 1) c6)) b (x.cells { L with vw := .slice a6 (ws.length + 1) c6 }) 128 := (HB6.out.set 21 _).as (cells_set21 HP.out.n0 HP.out.n1)
  have R7 : Row (w6.setCell ⟨b, 21, none⟩ (.slice a6 (ws.length + 1) c6)) 142 1 (.slice a6 (ws.length + 1) c6) (ws.length + 1) (ws.map wtV ++ [wtV (T, g)]) := Row.keep HR6.out ((Typed.one HB6.out).off (by decide)) ((Chg.refl [b] w6).set (b := b) (i := 21) (.inl (by simp)) _)
  exact ⟨rfl, .slice a6 (ws.length + 1) c6, HP.out.watch B7 R7 G7 (fun k hk => (HO6.out k hk).imp (fun h => HEV.out.symm ▸ h) (fun h => Nat.le_trans BA.out.size h))⟩
end Go.Proofs.YtcllbmjmefeknaaGreatK
