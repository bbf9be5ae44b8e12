/- The walk of the reference's Decode over a status; lists of octets and of numbers that a law collects. -/
import Derived.Test.YtdffinnnjcgfcaaGreatPs0
namespace Go.Proofs.YtdffinnnjcgfcaaGreatK
open Go Go.RowKit
set_option linter.unusedVariables false
set_option maxHeartbeats 20000000
set_option maxRecDepth 100000
theorem KDec_c {w : World} {v : Value} {a b s : Int} (h : BytV w v [a, b, 1, s]) :
    Calls Tryz.prog 61 #[v] w fun e w' => ∃ x0 x1 x2 x3 x5, e = .returned (.tuple #[.agg #[.int .u8 x0, .int .u8 x1, .bool x2, .bool x3, .int .u8 1, .int .u8 x5, .bool false, .slice none 0 0], .int .i64 0]) ∧ Below w.heap.size w w' := by
  obtain ⟨bl, off, cap, rfl⟩ := BytV.someA h (by simp)
  obtain ⟨⟨bl', off', e', k0⟩, r0⟩ := h.i0.at 0 a rfl
  simp only [Option.some.injEq, Addr.mk.injEq, and_true] at e'
  obtain ⟨rfl, rfl⟩ := e'
  obtain ⟨⟨bl', off', e', k1⟩, r1⟩ := h.i0.at 1 b rfl
  simp only [Option.some.injEq, Addr.mk.injEq, and_true] at e'
  obtain ⟨rfl, rfl⟩ := e'
  obtain ⟨⟨bl', off', e', k2⟩, r2⟩ := h.i0.at 2 1 rfl
  simp only [Option.some.injEq, Addr.mk.injEq, and_true] at e'
  obtain ⟨rfl, rfl⟩ := e'
  obtain ⟨⟨bl', off', e', k3⟩, r3⟩ := h.i0.at 3 s rfl
  simp only [Option.some.injEq, Addr.mk.injEq, and_true] at e'
  obtain ⟨rfl, rfl⟩ := e'
  have hlt : bl < w.heap.size := by
    obtain ⟨cs, h1⟩ := Row.blk h.1 bl (by simp [own, Value.ownBlock])
    exact h1.lt
  rw [Nat.add_zero] at k0
  have n1 : w.heap.size ≠ bl := by omega
  have n2 : bl ≠ w.heap.size := by omega
  have n3 : w.heap.size + 1 ≠ bl := by omega
  have n4 : bl ≠ w.heap.size + 1 := by omega
  have t0 : a.tmod 128 = a % 128 := Int.tmod_eq_emod_of_nonneg r0.1
  have t1 : b.tmod 128 = b % 128 := Int.tmod_eq_emod_of_nonneg r1.1
  have t3 : s.tmod 8 = s % 8 := Int.tmod_eq_emod_of_nonneg r3.1
  have q0 := r0.1
  have q1 := r1.1
  have q3 := r3.1
  clear h r2
  go_enter Tryz.func61, Tryz.ntmps61
  go_wp2
  exact bodyPost_ret (res_ct rfl Un.laid rfl ((Blk.new w #[.int .u8 (a % 128), .int .u8 (b % 128), .bool (decide (127 < a)), .bool (decide (127 < b)), .int .u8 1, .int .u8 (s % 8), .bool false, .slice none 0 0] 31).alloc _) rfl) rfl ⟨_, _, _, _, _, rfl, bl_alloc (bl_alloc (bl_refl w) _) _⟩
/-! ### Lists that a law collects -/
structure AccL (w0 w : World) (v : Value) (l : List Oct) : Prop where
  bel : Below w0.heap.size w0 w
  rows : ∃ vs, Row w 27 1 v l.length vs ∧ ∀ (j : Nat) (x : Oct), l[j]? = some x → ∃ u, vs[j]? = some u ∧ BytV w u x
  own : ∀ g ∈ own v, w0.heap.size ≤ g
structure AccI (w0 w : World) (v : Value) (l : List Int) : Prop where
  bel : Below w0.heap.size w0 w
  row : Row w 3 1 v l.length (l.map (Value.int .i64))
  own : ∀ g ∈ own v, w0.heap.size ≤ g
theorem AccL.nil {w0 w : World} (h : Below w0.heap.size w0 w) : AccL w0 w (.slice none 0 0) [] := ⟨h, ⟨[], Row.nil _ _ _, by simp⟩, by simp [Go.Proofs.YtdffinnnjcgfcaaGreatK.own, Value.ownBlock]⟩
theorem AccI.nil {w0 w : World} (h : Below w0.heap.size w0 w) : AccI w0 w (.slice none 0 0) [] := ⟨h, Row.nil _ _ _, by simp [Go.Proofs.YtdffinnnjcgfcaaGreatK.own, Value.ownBlock]⟩
section
variable {w0 w w1 : World} {v : Value} {F : List Nat}
theorem Acc.chg {t : List Bool} (h : Acc w0 w v t) (G : Chg F w w1) (h0 : ∀ k ∈ F, w0.heap.size ≤ k) (hn : ∀ g ∈ Go.Proofs.YtdffinnnjcgfcaaGreatK.own v, g ∉ F) : Acc w0 w1 v t := ⟨h.bel.trans (G.to_below h.bel.size h0), Row.chg h.bits G hn, h.own⟩
theorem AccL.chg {l : List Oct} (h : AccL w0 w v l) (G : Chg F w w1) (h0 : ∀ k ∈ F, w0.heap.size ≤ k) (hn : ∀ g ∈ Go.Proofs.YtdffinnnjcgfcaaGreatK.own v, g ∉ F) (h8 : Off w 5 F) : AccL w0 w1 v l := by
  obtain ⟨vs, r, m⟩ := h.rows
  refine ⟨h.bel.trans (G.to_below h.bel.size h0), ⟨vs, r.chg G hn, fun j x hx => ?_⟩, h.own⟩
  obtain ⟨u, e, b⟩ := m j x hx
  exact ⟨u, e, b.stay h8 G⟩
theorem AccI.chg {l : List Int} (h : AccI w0 w v l) (G : Chg F w w1) (h0 : ∀ k ∈ F, w0.heap.size ≤ k) (hn : ∀ g ∈ Go.Proofs.YtdffinnnjcgfcaaGreatK.own v, g ∉ F) : AccI w0 w1 v l := ⟨h.bel.trans (G.to_below h.bel.size h0), h.row.chg G hn, h.own⟩
theorem AccL.below {l : List Oct} (h : AccL w0 w v l) (hb : Below w.heap.size w w1) : AccL w0 w1 v l := h.chg (F := []) (.of_below hb _) (by simp) (by simp) (by simp [Off])
theorem AccI.below {l : List Int} (h : AccI w0 w v l) (hb : Below w.heap.size w w1) : AccI w0 w1 v l := h.chg (F := []) (.of_below hb _) (by simp) (by simp)
theorem AccL.typed {l : List Oct} (h : AccL w0 w v l) : Typed w (Go.Proofs.YtdffinnnjcgfcaaGreatK.own v) [27] := Typed.row h.rows.choose_spec.1
theorem AccI.typed {l : List Int} (h : AccI w0 w v l) : Typed w (Go.Proofs.YtdffinnnjcgfcaaGreatK.own v) [3] := Typed.row h.row
theorem Acc.typed {t : List Bool} (h : Acc w0 w v t) : Typed w (Go.Proofs.YtdffinnnjcgfcaaGreatK.own v) [4] := Typed.row h.bits
theorem AccL.shape {l : List Oct} (h : AccL w0 w v l) : ∃ a cap, v = .slice a l.length cap ∧ l.length ≤ cap := h.rows.choose_spec.1.shape
theorem AccI.shape {l : List Int} (h : AccI w0 w v l) : ∃ a cap, v = .slice a l.length cap ∧ l.length ≤ cap := h.row.shape
theorem AccL.at {l : List Oct} {a : Option Addr} {n c : Nat} (h : AccL w0 w (.slice a n c) l) (j : Nat) (x : Oct) (hx : l[j]? = some x) : ∃ bl off u, a = some ⟨bl, off, none⟩ ∧ w.cell? ⟨bl, off + j, none⟩ = some u ∧ BytV w u x := by
  obtain ⟨vs, r, m⟩ := h.rows
  obtain ⟨u, e, b⟩ := m j x hx
  have hl := (List.getElem?_eq_some_iff.1 hx).1
  rcases r.2 with ⟨_, h0⟩ | ⟨bl, off, cap', cs, hv, h1, h2, h3, h4, h5⟩
  · omega
  · simp only [Value.slice.injEq] at hv
    exact ⟨bl, off, u, hv.1, by rw [h3.c]; exact h5 j u e, b⟩
theorem AccI.at {l : List Int} {a : Option Addr} {n c : Nat} (h : AccI w0 w (.slice a n c) l) (j : Nat) (x : Int) (hx : l[j]? = some x) : ∃ bl off, a = some ⟨bl, off, none⟩ ∧ w.cell? ⟨bl, off + j, none⟩ = some (.int .i64 x) := by
  have hl := (List.getElem?_eq_some_iff.1 hx).1
  rcases h.row.2 with ⟨_, h0⟩ | ⟨bl, off, cap', cs, hv, h1, h2, h3, h4, h5⟩
  · omega
  · simp only [Value.slice.injEq] at hv
    exact ⟨bl, off, hv.1, by rw [h3.c]; exact h5 j _ (by rw [List.getElem?_map, hx]; rfl)⟩
end
theorem wpList_oct {ops : Array Oper} {rest : List Oper} {o : Oper} {a : Act} {Q : Exit → Act → World → Prop} (w : World) (hgd : o.guard = none) (s x : Operand) (t : TypeId)
    (ho : o.op = .call { callee := .builtin .append, args := #[s, x], argTypes := #[t, t] }) (ht : Tryz.prog.underlying t = some (.slice 27))
    {w0 : World} {v : Value} {l : List Oct} (hs : a.eval s = v) (A : AccL w0 w v l) (g : Nat) (vp : Value) (oc : Oct) (hx : a.eval x = .slice (some ⟨g, 0, none⟩) 1 1) (hb : Blk w g #[vp] 27) (hp : BytV w vp oc) (hl : l.length ≤ 1000000)
    (h : ∀ v' w', AccL w0 w' v' (l ++ [oc]) → Chg (own v) w w' → (∀ b ∈ own v', b ∈ own v ∨ w.heap.size ≤ b) → wpList Tryz.prog ops Q rest (a.put o.dst v') w') : wpList Tryz.prog ops Q (o :: rest) a w := by
  obtain ⟨bel, ⟨vs, rp, m⟩, ow⟩ := A
  obtain ⟨ap, cp, rfl, _⟩ := hp.1.shape
  refine wpList_row_append w hgd s x t ho 27 Tryz.t27 (.slice none 0 0) 1 24 ht rfl rfl rfl rfl rfl (by decide) v l.length vs hs rp ⟨g, 0, none⟩ 1 1 [.slice ap oc.length cp] hx rfl
    (fun j u hu => by rw [Addr.add_lit, hb.c, Nat.zero_add]; simpa using hu) (by simp [Value.oneCell']) (by decide) (by simp [maxLen]; omega) (by omega) (fun v' w' R C O => h v' w' ⟨bel.trans (C.to_below bel.size ow), ⟨vs ++ [.slice ap oc.length cp], by rw [List.length_append]; exact R, fun j q hq => ?_⟩, fun k hk => ?_⟩ C O)
  · have off : Off w 5 (own v) := fun k hk => by
      obtain ⟨cs, h1⟩ := rp.blk k hk
      exact ⟨cs, _, h1, by decide⟩
    have hvl : vs.length = l.length := by have := rp.1; omega
    by_cases hj : j < l.length
    · rw [List.getElem?_append_left hj] at hq
      obtain ⟨u, e, b⟩ := m j q hq
      exact ⟨u, by rw [List.getElem?_append_left (by omega)]; exact e, b.stay off C⟩
    · rw [List.getElem?_append_right (by omega)] at hq
      have hj2 : j - l.length = 0 := by have := (List.getElem?_eq_some_iff.1 hq).1; simp at this; omega
      rw [hj2] at hq
      obtain rfl : oc = q := by simpa using hq
      exact ⟨_, by rw [List.getElem?_append_right (by omega), hvl, hj2]; rfl, hp.stay off C⟩
  · rcases O k hk with h9 | h9
    · exact ow k h9
    · exact Nat.le_trans bel.size h9
theorem wpList_num {ops : Array Oper} {rest : List Oper} {o : Oper} {a : Act} {Q : Exit → Act → World → Prop} (w : World) (hgd : o.guard = none) (s x : Operand) (t : TypeId)
    (ho : o.op = .call { callee := .builtin .append, args := #[s, x], argTypes := #[t, t] }) (ht : Tryz.prog.underlying t = some (.slice 3))
    {w0 : World} {v : Value} {l : List Int} (hs : a.eval s = v) (A : AccI w0 w v l) (g : Nat) (m : Int) (hx : a.eval x = .slice (some ⟨g, 0, none⟩) 1 1) (hb : Blk w g #[.int .i64 m] 3) (hl : l.length ≤ 1000000)
    (h : ∀ v' w', AccI w0 w' v' (l ++ [m]) → Chg (own v) w w' → (∀ b ∈ own v', b ∈ own v ∨ w.heap.size ≤ b) → wpList Tryz.prog ops Q rest (a.put o.dst v') w') : wpList Tryz.prog ops Q (o :: rest) a w := by
  obtain ⟨bel, rp, ow⟩ := A
  refine wpList_row_append w hgd s x t ho 3 Tryz.t3 (.int .i64 0) 1 8 ht rfl rfl rfl rfl rfl (by decide) v l.length _ hs rp ⟨g, 0, none⟩ 1 1 [.int .i64 m] hx rfl
    (fun j u hu => by rw [Addr.add_lit, hb.c, Nat.zero_add]; simpa using hu) (by simp [Value.oneCell']) (by decide) (by simp [maxLen]; omega) (by omega) (fun v' w' R C O => h v' w' ⟨bel.trans (C.to_below bel.size ow), by rw [List.length_append, List.map_append]; exact R, fun k hk => ?_⟩ C O)
  rcases O k hk with h9 | h9
  · exact ow k h9
  · exact Nat.le_trans bel.size h9
/-! ### A terminal, and where what it sent lies -/
def PoS (w0 w : World) (b : Nat) (p : Po) (A : List Nat) (vs : Value) : Prop := ∃ L, PoAt w b p L ∧ L.vs = vs ∧ ∀ k ∈ poF b L, w0.heap.size ≤ k ∧ k ∉ A
theorem PoS.pow {w0 w : World} {b : Nat} {p : Po} {A : List Nat} {vs : Value} (h : PoS w0 w b p A vs) : PoW w0 w b p A := by
  obtain ⟨L, P, _, hL⟩ := h
  exact ⟨L, P, hL⟩
theorem PoS.sents {w0 w : World} {b : Nat} {p : Po} {A : List Nat} {vs : Value} (h : PoS w0 w b p A vs) : Sents w vs p.sent := by
  obtain ⟨L, P, rfl, _⟩ := h
  exact P.sn
theorem PoS.far {w0 w w1 : World} {b : Nat} {p : Po} {A A' F : List Nat} {vs : Value} (h : PoS w0 w b p A vs) (G : Chg F w w1) (hF : ∀ k ∈ F, k ∈ A ∨ w.heap.size ≤ k) (h8 : Off w 5 F) (hA' : ∀ g ∈ A', g ∈ A ∨ w.heap.size ≤ g) : PoS w0 w1 b p A' vs := by
  obtain ⟨L, P, e, hL⟩ := h
  refine ⟨L, P.far h8 (fun k hk hF' => ?_) G, e, fun k hk => ⟨(hL k hk).1, fun hg => ?_⟩⟩
  · rcases hF k hF' with h9 | h9
    · exact (hL k hk).2 h9
    · exact absurd (P.lt k hk) (by omega)
  · rcases hA' k hg with h9 | h9
    · exact (hL k hk).2 h9
    · exact absurd (P.lt k hk) (by omega)
theorem PoS.below {w0 w w1 : World} {b : Nat} {p : Po} {A : List Nat} {vs : Value} (h : PoS w0 w b p A vs) (hb : Below w.heap.size w w1) : PoS w0 w1 b p A vs := h.far (F := []) (.of_below hb _) (by simp) (by simp [Off]) (fun g hg => .inl hg)
theorem PoW.sent {w0 w : World} {b : Nat} {p : Po} {A : List Nat} (h : PoW w0 w b p A) : Calls Tryz.prog 60 #[.pointer (some ⟨b, 0, none⟩)] w fun e w' => ∃ vs, e = .returned vs ∧ PoS w0 w b p A vs ∧ w = w' := by
  obtain ⟨L, P, hL⟩ := h
  exact (PSent_c P).mono fun e w' ⟨he, hw⟩ => ⟨L.vs, he, ⟨L, P, rfl, hL⟩, hw⟩
theorem Sents.at {w : World} {a : Option Addr} {n c : Nat} {l : List (Oct × Int)} (h : Sents w (.slice a n c) l) (j : Nat) (d : Oct × Int) (hd : l[j]? = some d) : ∃ bl off u, a = some ⟨bl, off, none⟩ ∧ w.cell? ⟨bl, off + j * 2, none⟩ = some u ∧ w.cell? ⟨bl, off + j * 2 + 1, none⟩ = some (.int .i64 d.2) ∧ BytV w u d.1 := by
  obtain ⟨ps, ep, r, q⟩ := h
  have hl := (List.getElem?_eq_some_iff.1 hd).1
  have hp : j < ps.length := by have := congrArg List.length ep; simp at this; omega
  have et : ps[j].1 = d := by
    have : (ps.map (·.1))[j]? = some d := by rw [ep]; exact hd
    simpa [List.getElem?_eq_getElem hp] using this
  obtain ⟨c0, c1⟩ := snCells_get ps j hp
  rcases r.2 with ⟨_, h0⟩ | ⟨bl, off, cap', cs, hv, h1, h2, h3, h4, h5⟩
  · omega
  · simp only [Value.slice.injEq] at hv
    refine ⟨bl, off, ps[j].2, hv.1, ?_, ?_, et ▸ q _ (List.getElem_mem hp)⟩
    · rw [Nat.mul_comm j 2, h3.c]; exact h5 _ _ c0
    · rw [Nat.mul_comm j 2, h3.c, Nat.add_assoc]; exact h5 _ _ (et ▸ c1)
theorem Heards.at {w : World} {a : Option Addr} {n c : Nat} {l : List ((Int × Oct) × Int)} (h : Heards w (.slice a n c) l) (j : Nat) (d : (Int × Oct) × Int) (hd : l[j]? = some d) : ∃ bl off u, a = some ⟨bl, off, none⟩ ∧ w.cell? ⟨bl, off + j * 3, none⟩ = some (.int .u8 d.1.1) ∧ w.cell? ⟨bl, off + j * 3 + 1, none⟩ = some u ∧ w.cell? ⟨bl, off + j * 3 + 2, none⟩ = some (.int .i64 d.2) ∧ BytV w u d.1.2 := by
  obtain ⟨ps, ep, r, q⟩ := h
  have hl := (List.getElem?_eq_some_iff.1 hd).1
  have hp : j < ps.length := by have := congrArg List.length ep; simp at this; omega
  have et : ps[j].1 = d := by
    have : (ps.map (·.1))[j]? = some d := by rw [ep]; exact hd
    simpa [List.getElem?_eq_getElem hp] using this
  obtain ⟨c0, c1, c2⟩ := cmCells_get ps j hp
  rcases r.2 with ⟨_, h0⟩ | ⟨bl, off, cap', cs, hv, h1, h2, h3, h4, h5⟩
  · omega
  · simp only [Value.slice.injEq] at hv
    refine ⟨bl, off, ps[j].2, hv.1, ?_, ?_, ?_, et ▸ q _ (List.getElem_mem hp)⟩
    · rw [Nat.mul_comm j 3, h3.c]; exact h5 _ _ (et ▸ c0)
    · rw [Nat.mul_comm j 3, h3.c, Nat.add_assoc]; exact h5 _ _ c1
    · rw [Nat.mul_comm j 3, h3.c, Nat.add_assoc]; exact h5 _ _ (et ▸ c2)
end Go.Proofs.YtdffinnnjcgfcaaGreatK
