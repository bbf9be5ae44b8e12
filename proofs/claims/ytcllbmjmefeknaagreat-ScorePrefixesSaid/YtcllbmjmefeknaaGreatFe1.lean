/- The walk of hold.Rest. -/
import Derived.Test.YtcllbmjmefeknaaGreatFe0
import Derived.Deep.Upon
import Derived.Deep.AppendSrc
import Derived.Deep.RegionLaw
namespace Go.Proofs.YtcllbmjmefeknaaGreatK
open Go Go.RowKit
set_option maxHeartbeats 2000000
set_option maxRecDepth 100000
section
variable {P : Program} (w : World)
/-- An append that finds no room: all that was there stays. -/
theorem run_row_grow (t ty e : TypeId) (i : TypeInfo) (z : Value) (size bytes : Nat) (ht : P.underlying t = some (.slice e)) (hi : P.info? e = some i) (hz : i.zero = some z)
    (hsize : i.size = size) (hby : i.bytes = bytes) (hzs : z.cells.size = size) (hsz : 0 < size)
    (v : Value) (n : Nat) (xs : List Value) (hr : Row w e size v n xs) (hfull : ∀ a c, v = .slice (some a) n c → c = n)
    (a : Addr) (m c : Nat) (news : List Value) (hl : news.length = m * size) (hnews : ∀ j u, news[j]? = some u → w.cell? (a.add j) = some u) (h1 : ∀ u ∈ news, u.oneCell' = true)
    (hm : 0 < m) (h63 : n + m ≤ maxLen) (hbytes : (n + m) * bytes ≤ 140737488355328) :
    ∃ v' w', (Builtin.append_ #[t, t] ty #[v, .slice (some a) m c]).run P w = .ok v' w' ∧ Row w' e size v' (n + m) (xs ++ news) ∧ Below w.heap.size w w' ∧ (∀ b ∈ own v', w.heap.size ≤ b) := by
  rcases hr.2 with ⟨rfl, rfl⟩ | ⟨b, off, cap, cs, rfl, hn, hc, hb, hsz', hx⟩
  · obtain ⟨v', w', h2, h3, h4, h5⟩ := run_row_append (P := P) w t ty e i z size bytes ht hi hz hsize hby hzs hsz _ 0 xs hr a m c news hl hnews h1 hm h63 hbytes
    exact ⟨v', w', h2, h3, h4.to_below (Nat.le_refl _) (by simp [own, Value.ownBlock]), fun g hg => (h5 g hg).elim (fun h => by simp [own, Value.ownBlock] at h) id⟩
  · obtain rfl : cap = n := hfull _ _ rfl
    subst hsize hby
    have hlen : (xs ++ news).length = (cap + m) * i.size := by rw [List.length_append, hr.1, hl, Nat.add_mul]
    have holds : ∀ j u, xs[j]? = some u → w.cell? ((⟨b, off, none⟩ : Addr).add j) = some u := fun j u hu => by
      rw [Addr.add_lit, hb.c]; exact hx j u hu
    obtain ⟨v', w', hrun, ho, hg⟩ := run_append_arg_grows (P := P) w t ty e i z i.size i.bytes ht hi hz rfl rfl hzs hsz ⟨b, off, none⟩ cap cap xs hr.1 holds a m c news hl hnews (by omega) h63 hbytes
    refine ⟨v', w', hrun, ⟨hlen, ?_⟩, ⟨hg.os, hg.tape, hg.output, hg.size, fun k hk => hg.block k hk (by simp)⟩, ?_⟩
    · rcases ho.2 with h2 | ⟨g, cap', cur, rfl, hb', hh, hc1, hc2, hc3, hc4⟩
      · exact .inl h2
      · refine .inr ⟨g, 0, cap', cur, rfl, hc1, hc2, hh, by omega, fun j u hu => ?_⟩
        rw [← hc4, List.getElem?_take] at hu
        split at hu
        · simpa using hu
        · cases hu
    · intro b hb
      rcases ho.2 with ⟨rfl, _⟩ | ⟨g, cap', cur, rfl, hb', _⟩
      · simp [own, Value.ownBlock] at hb
      · simp [own, Value.ownBlock] at hb
        subst hb
        exact hb'
/-- A row behind a row that is full. -/
theorem run_row_join (t ty e : TypeId) (i : TypeInfo) (z : Value) (bytes : Nat) (ht : P.underlying t = some (.slice e)) (hi : P.info? e = some i) (hz : i.zero = some z)
    (hsize : i.size = 1) (hby : i.bytes = bytes) (hzs : z.cells.size = 1)
    (v : Value) (n : Nat) (xs : List Value) (hr : Row w e 1 v n xs) (hfull : ∀ a c, v = .slice (some a) n c → c = n)
    (x : Value) (m : Nat) (ys : List Value) (hx : Row w e 1 x m ys) (h1 : ∀ u ∈ ys, u.oneCell' = true) (h63 : n + m ≤ maxLen) (hbytes : (n + m) * bytes ≤ 140737488355328) :
    ∃ v' w', (Builtin.append_ #[t, t] ty #[v, x]).run P w = .ok v' w' ∧ Row w' e 1 v' (n + m) (xs ++ ys) ∧ Below w.heap.size w w' := by
  obtain ⟨ao, cap, ev, hcap⟩ := hr.shape
  by_cases h0 : m = 0
  · subst h0
    have hys : ys = [] := List.eq_nil_of_length_eq_zero (by simpa using hx.1)
    subst hys
    obtain ⟨ax, cx, ex, _⟩ := hx.shape
    have hs : Src P i.size t x 0 [] w := by
      rw [ex]
      cases ax with
      | none => exact .ofNil w ht cx
      | some a => exact .ofSlice w ht a 0 cx [] (by simp) (by simp) (by simp)
    refine ⟨v, w, ?_, by simpa using hr, bl_refl w⟩
    rw [ev]
    exact run_append_nothing (P := P) w t t ty e i ht hi ao n cap hcap x hs
  · rcases hx.2 with ⟨_, hm⟩ | ⟨b, off, cx, cs, rfl, hn, hc, hb, hsz', hcs⟩
    · exact absurd hm h0
    · obtain ⟨v', w', h2, h3, h4, _⟩ := run_row_grow w t ty e i z 1 bytes ht hi hz hsize hby hzs (by decide) v n xs hr hfull ⟨b, off, none⟩ m cx ys hx.1 (fun j u hu => by rw [Addr.add_lit, hb.c]; exact hcs j u hu) h1 (by omega) h63 hbytes
      exact ⟨v', w', h2, h3, h4⟩
theorem step_row_join {ops : Array Oper} {o : Oper} {a : Act} {K : Act → World → Prop} {Q : Exit → Act → World → Prop} {E : Prop} (hgd : o.guard = none) (s x : Operand) (t : TypeId)
    (ho : o.op = .call { callee := .builtin .append, args := #[s, x], argTypes := #[t, t] })
    (e : TypeId) (i : TypeInfo) (z : Value) (bytes : Nat) (ht : P.underlying t = some (.slice e)) (hi : P.info? e = some i) (hz : i.zero = some z)
    (hsize : i.size = 1) (hby : i.bytes = bytes) (hzs : z.cells.size = 1)
    (v : Value) (n : Nat) (xs : List Value) (hs : a.eval s = v) (hr : Row w e 1 v n xs) (hfull : ∀ a c, v = .slice (some a) n c → c = n)
    (y : Value) (m : Nat) (ys : List Value) (hx : a.eval x = y) (hy : Row w e 1 y m ys) (h1 : ∀ u ∈ ys, u.oneCell' = true) (h63 : n + m ≤ maxLen) (hbytes : (n + m) * bytes ≤ 140737488355328)
    (h : ∀ v' w', Row w' e 1 v' (n + m) (xs ++ ys) → Below w.heap.size w w' → K (a.put o.dst v') w') :
    if Region.wanted o (yielded ops a.tmps) = true then Oper.wp P o a w K Q else E := by
  have hw : Region.wanted o (yielded ops a.tmps) = true := by simp [Region.wanted, hgd]
  rw [if_pos hw]
  obtain ⟨v', w', hrun, h2, h3⟩ := run_row_join (P := P) w t o.type e i z bytes ht hi hz hsize hby hzs v n xs hr hfull y m ys hy h1 h63 hbytes
  unfold Oper.wp execOp
  simp only [ho, resolve, invoke, builtin, Sem.run_bind, Sem.run_pure, Result.andThen_ok, List.map_toArray, List.map_cons, List.map_nil, hs, hx, hrun]
  exact h v' w' h2 h3
end
/-- Rows whose elements read as messages. -/
def Reads (w : World) (vs : List Value) (xs : List Oct) : Prop := vs.length = xs.length ∧ ∀ (j : Nat) (x : List Int), xs[j]? = some x → ∃ u, vs[j]? = some u ∧ BytV w u x
theorem Reads.below {w w1 : World} {vs : List Value} {xs : List Oct} (h : Reads w vs xs) (hb : Below w.heap.size w w1) : Reads w1 vs xs := ⟨h.1, fun j x hx => by
  obtain ⟨u, h1, h2⟩ := h.2 j x hx
  exact ⟨u, h1, h2.below hb⟩⟩
theorem Reads.drop {w : World} {vs : List Value} {xs : List Oct} (h : Reads w vs xs) (g : Nat) : Reads w (vs.drop g) (xs.drop g) := ⟨by simp [h.1], fun j x hx => by
  rw [List.getElem?_drop] at hx ⊢
  exact h.2 _ x hx⟩
theorem Reads.append {w : World} {vs us : List Value} {xs ys : List Oct} (h : Reads w vs xs) (k : Reads w us ys) : Reads w (vs ++ us) (xs ++ ys) := ⟨by simp [h.1, k.1], fun j x hx => by
  by_cases hj : j < xs.length
  · rw [List.getElem?_append_left hj] at hx
    rw [List.getElem?_append_left (by rw [h.1]; exact hj)]
    exact h.2 j x hx
  · rw [List.getElem?_append_right (by omega)] at hx
    rw [List.getElem?_append_right (by rw [h.1]; omega), h.1]
    exact k.2 _ x hx⟩
theorem Reads.one {w : World} {vs : List Value} {xs : List Oct} (h : Reads w vs xs) : ∀ u ∈ vs, u.oneCell' = true := fun u hu => by
  obtain ⟨j, hj, rfl⟩ := List.getElem_of_mem hu
  obtain ⟨u', h1, h2⟩ := h.2 j (xs[j]'(by rw [← h.1]; exact hj)) (List.getElem?_eq_getElem _)
  rw [List.getElem?_eq_getElem hj] at h1
  obtain rfl := Option.some.inj h1
  obtain ⟨a, c, e, _⟩ := h2.1.shape
  rw [e]; rfl
theorem MsgV.reads {w : World} {v : Value} {xs : List Oct} (h : MsgV w v xs) : ∃ vs, Row w 25 1 v xs.length vs ∧ Reads w vs xs := by
  obtain ⟨vs, h1, h2⟩ := h
  exact ⟨vs, h1, by simpa using h1.1, h2⟩
end Go.Proofs.YtcllbmjmefeknaaGreatK
