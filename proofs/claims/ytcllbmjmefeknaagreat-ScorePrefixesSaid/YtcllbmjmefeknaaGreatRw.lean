/- A slice that is owned, wherever in its array it begins; what append does to it. -/
import Derived.Test.YtcllbmjmefeknaaGreatCore
import Derived.ArgAppend
namespace Go.Proofs.YtcllbmjmefeknaaGreatK
open Go Go.RowKit
/-- The slice v has n elements (each of sz cells), whose cells are xs; behind them there is room up to its capacity. -/
def Row (w : World) (e : TypeId) (sz : Nat) (v : Value) (n : Nat) (xs : List Value) : Prop :=
  xs.length = n * sz ∧ ((v = .slice none 0 0 ∧ n = 0) ∨
    ∃ b off cap cs, v = .slice (some ⟨b, off, none⟩) n cap ∧ n ≤ cap ∧ cap ≤ maxLen ∧ Blk w b cs e ∧ off + cap * sz ≤ cs.size ∧ ∀ j u, xs[j]? = some u → cs[off + j]? = some u)
def own (v : Value) : List Nat := v.ownBlock.toList
theorem Row.nil (w : World) (e : TypeId) (sz : Nat) : Row w e sz (.slice none 0 0) 0 [] := ⟨by simp, .inl ⟨rfl, rfl⟩⟩
theorem Row.chg {w w1 : World} {e : TypeId} {sz n : Nat} {v : Value} {xs : List Value} {F : List Nat} (h : Row w e sz v n xs) (hc : Chg F w w1) (hn : ∀ b ∈ own v, b ∉ F) : Row w1 e sz v n xs := by
  refine ⟨h.1, ?_⟩
  rcases h.2 with h2 | ⟨b, off, cap, cs, rfl, h1, h2, h3, h4, h5⟩
  · exact .inl h2
  · exact .inr ⟨b, off, cap, cs, rfl, h1, h2, h3.chg hc (hn b (by simp [own, Value.ownBlock])), h4, h5⟩
theorem Row.below {w w1 : World} {e : TypeId} {sz n : Nat} {v : Value} {xs : List Value} (h : Row w e sz v n xs) (hb : Below w.heap.size w w1) : Row w1 e sz v n xs := h.chg (.of_below hb []) (by simp)
theorem Row.lt {w : World} {e : TypeId} {sz n : Nat} {v : Value} {xs : List Value} (h : Row w e sz v n xs) : ∀ b ∈ own v, b < w.heap.size := by
  intro b hb
  rcases h.2 with ⟨rfl, _⟩ | ⟨b', off, cap, cs, rfl, h1, h2, h3, h4, h5⟩
  · simp [own, Value.ownBlock] at hb
  · simp [own, Value.ownBlock] at hb
    subst hb
    exact h3.lt
theorem Row.shape {w : World} {e : TypeId} {sz n : Nat} {v : Value} {xs : List Value} (h : Row w e sz v n xs) : ∃ a cap, v = .slice a n cap ∧ n ≤ cap := by
  rcases h.2 with ⟨rfl, rfl⟩ | ⟨b, off, cap, cs, rfl, h1, _⟩
  · exact ⟨none, 0, rfl, Nat.le_refl _⟩
  · exact ⟨_, cap, rfl, h1⟩
theorem setCells_blk {b : Nat} {t : TypeId} : ∀ (vs : List Value) (o : Nat) (w : World) (cs : Array Value), Blk w b cs t → ∃ cs', Blk (w.setCells b o vs) b cs' t ∧ cs'.size = cs.size
  | [], _, _, cs, h => ⟨cs, h, rfl⟩
  | v :: r, o, w, cs, h => by
    obtain ⟨cs', h1, h2⟩ := setCells_blk r (o + 1) (w.setCell ⟨b, o, none⟩ v) _ (h.set o v)
    exact ⟨cs', h1, by simpa using h2⟩
theorem setCells_chg {b : Nat} : ∀ (vs : List Value) (o : Nat) (w w0 : World), Chg [b] w0 w → Chg [b] w0 (w.setCells b o vs)
  | [], _, _, _, h => h
  | v :: r, o, w, w0, h => setCells_chg r (o + 1) (w.setCell ⟨b, o, none⟩ v) w0 (h.set (by simp) v)
section
variable {P : Program} (w : World)
theorem run_row_append (t ty e : TypeId) (i : TypeInfo) (z : Value) (size bytes : Nat) (ht : P.underlying t = some (.slice e)) (hi : P.info? e = some i) (hz : i.zero = some z)
    (hsize : i.size = size) (hby : i.bytes = bytes) (hzs : z.cells.size = size) (hsz : 0 < size)
    (v : Value) (n : Nat) (xs : List Value) (hr : Row w e size v n xs)
    (a : Addr) (m c : Nat) (news : List Value) (hl : news.length = m * size) (hnews : ∀ j u, news[j]? = some u → w.cell? (a.add j) = some u) (h1 : ∀ u ∈ news, u.oneCell' = true)
    (hm : 0 < m) (h63 : n + m ≤ maxLen) (hbytes : (n + m) * bytes ≤ 140737488355328) :
    ∃ v' w', (Builtin.append_ #[t, t] ty #[v, .slice (some a) m c]).run P w = .ok v' w' ∧ Row w' e size v' (n + m) (xs ++ news) ∧ Chg (own v) w w' ∧ (∀ b ∈ own v', b ∈ own v ∨ w.heap.size ≤ b) := by
  subst hsize hby
  have hlen : (xs ++ news).length = (n + m) * i.size := by rw [List.length_append, hr.1, hl, Nat.add_mul]
  have grown : ∀ v' w', w'.ownsRow w.heap.size e i.size v' (n + m) (xs ++ news) → w.grownBy w' none → Row w' e i.size v' (n + m) (xs ++ news) ∧ Chg (own v) w w' ∧ (∀ b ∈ own v', b ∈ own v ∨ w.heap.size ≤ b) := by
    intro v' w' ho hg
    refine ⟨⟨hlen, ?_⟩, ⟨hg.os, hg.tape, hg.output, hg.size, fun k hk _ => hg.block k hk (by simp)⟩, ?_⟩
    · rcases ho.2 with h2 | ⟨g, cap, cur, rfl, hb, hh, hc1, hc2, hc3, hc4⟩
      · exact .inl h2
      · refine .inr ⟨g, 0, cap, cur, rfl, hc1, hc2, hh, by omega, fun j u hu => ?_⟩
        rw [← hc4, List.getElem?_take] at hu
        split at hu
        · simpa using hu
        · cases hu
    · intro b hb
      rcases ho.2 with ⟨rfl, _⟩ | ⟨g, cap, cur, rfl, hb', _⟩
      · simp [own, Value.ownBlock] at hb
      · simp [own, Value.ownBlock] at hb
        subst hb
        exact .inr hb'
  rcases hr.2 with ⟨rfl, rfl⟩ | ⟨b, off, cap, cs, rfl, hn, hc, hb, hsz', hx⟩
  · have hxs : xs = [] := List.eq_nil_of_length_eq_zero (by simpa using hr.1)
    subst hxs
    have hrun := run_append_nil (P := P) w t ty e i z ht hi hz a m c news hl hnews hm (by simp only [maxLen] at h63; omega) (by have hb := hbytes; simp only [Nat.zero_add] at hb; omega)
    have hge := grownCap_ge w m 0 e
    refine ⟨_, _, hrun, ⟨by simpa using hlen, .inr ⟨w.heap.size, 0, _, _, by rw [Nat.zero_add], by omega, grownCap_le_maxLen w m 0 e (by omega), heap_alloc_new w.drew _, ?_, ?_⟩⟩, ⟨rfl, rfl, rfl, by simp, fun k hk _ => Below.heap_alloc w.drew _ k hk⟩, ?_⟩
    · simp only [Array.size_append, List.size_toArray, size_zeroCells, hzs, hl]
      rw [← Nat.add_mul]
      have : m + (grownCap w m 0 e - m) = grownCap w m 0 e := by omega
      rw [this]; omega
    · intro j u hu
      simp only [List.nil_append] at hu
      have hj : j < news.length := (List.getElem?_eq_some_iff.1 hu).1
      rw [Nat.zero_add, Array.getElem?_append_left (by simpa using hj)]
      simpa using hu
    · intro b hb
      simp [own, Value.ownBlock] at hb
      exact .inr (by omega)
  · by_cases hroom : n + m ≤ cap
    · have hfit : n * i.size + news.length ≤ cap * i.size := by rw [hl, ← Nat.add_mul]; exact Nat.mul_le_mul_right _ hroom
      have hin : ∀ j, j < news.length → (w.cell? ⟨b, off + n * i.size + j, none⟩).isSome = true := fun j hj => by
        rw [hb.c, Array.getElem?_eq_getElem (by omega)]; rfl
      have hrun := run_append_room_cells (P := P) w t ty e i ht hi b off n cap a m c news hl hnews h1 hroom hin (fun j _ => hb.f _)
      obtain ⟨cs', hb', hs'⟩ := setCells_blk news (off + n * i.size) w cs hb
      refine ⟨_, _, hrun, ⟨hlen, .inr ⟨b, off, cap, cs', rfl, hroom, hc, hb', by omega, ?_⟩⟩, ?_, fun k hk => .inl (by simpa [own, Value.ownBlock] using hk)⟩
      · intro j u hu
        rw [← hb'.c]
        by_cases hj : j < xs.length
        · rw [List.getElem?_append_left hj] at hu
          rw [World.cell?_setCells_out _ _ _ _ _ (fun _ _ => .inl (by have := hr.1; simp only; omega)), hb.c]
          exact hx j u hu
        · rw [List.getElem?_append_right (by omega)] at hu
          have hj2 : j - xs.length < news.length := (List.getElem?_eq_some_iff.1 hu).1
          have := World.cell?_setCells_in b news (off + n * i.size) w hin (j - xs.length) hj2
          rw [show off + j = off + n * i.size + (j - xs.length) by have := hr.1; omega, this]
          rw [List.getElem?_eq_getElem hj2] at hu
          exact hu
      · have := setCells_chg news (off + n * i.size) w w (Chg.refl [b] w)
        simpa [own, Value.ownBlock] using this
    · have holds : ∀ j u, xs[j]? = some u → w.cell? ((⟨b, off, none⟩ : Addr).add j) = some u := fun j u hu => by
        rw [Addr.add_lit, hb.c]; exact hx j u hu
      obtain ⟨v', w', hrun, h2, h3⟩ := run_append_arg_grows (P := P) w t ty e i z i.size i.bytes ht hi hz rfl rfl hzs hsz ⟨b, off, none⟩ n cap xs hr.1 holds a m c news hl hnews (by omega) h63 hbytes
      exact ⟨v', w', hrun, grown v' w' h2 h3⟩
theorem wp_row_append {o : Oper} {a : Act} {K : Act → World → Prop} {Q : Exit → Act → World → Prop} (s x : Operand) (t : TypeId)
    (ho : o.op = .call { callee := .builtin .append, args := #[s, x], argTypes := #[t, t] })
    (e : TypeId) (i : TypeInfo) (z : Value) (size bytes : Nat) (ht : P.underlying t = some (.slice e)) (hi : P.info? e = some i) (hz : i.zero = some z)
    (hsize : i.size = size) (hby : i.bytes = bytes) (hzs : z.cells.size = size) (hsz : 0 < size)
    (v : Value) (n : Nat) (xs : List Value) (hs : a.eval s = v) (hr : Row w e size v n xs)
    (ad : Addr) (m c : Nat) (news : List Value) (hx : a.eval x = .slice (some ad) m c) (hl : news.length = m * size) (hnews : ∀ j u, news[j]? = some u → w.cell? (ad.add j) = some u) (h1 : ∀ u ∈ news, u.oneCell' = true)
    (hm : 0 < m) (h63 : n + m ≤ maxLen) (hbytes : (n + m) * bytes ≤ 140737488355328)
    (h : ∀ v' w', Row w' e size v' (n + m) (xs ++ news) → Chg (own v) w w' → (∀ b ∈ own v', b ∈ own v ∨ w.heap.size ≤ b) → K (a.put o.dst v') w') : o.wp P a w K Q := by
  obtain ⟨v', w', hrun, h2, h3, h4⟩ := run_row_append (P := P) w t o.type e i z size bytes ht hi hz hsize hby hzs hsz v n xs hr ad m c news hl hnews h1 hm h63 hbytes
  unfold Oper.wp execOp
  simp only [ho, resolve, invoke, builtin, Sem.run_bind, Sem.run_pure, Result.andThen_ok, List.map_toArray, List.map_cons, List.map_nil, hs, hx, hrun]
  exact h v' w' h2 h3 h4
/-- At an append in a walk. -/
theorem wpList_row_append {ops : Array Oper} {rest : List Oper} {o : Oper} {a : Act} {Q : Exit → Act → World → Prop} (hgd : o.guard = none) (s x : Operand) (t : TypeId)
    (ho : o.op = .call { callee := .builtin .append, args := #[s, x], argTypes := #[t, t] })
    (e : TypeId) (i : TypeInfo) (z : Value) (size bytes : Nat) (ht : P.underlying t = some (.slice e)) (hi : P.info? e = some i) (hz : i.zero = some z)
    (hsize : i.size = size) (hby : i.bytes = bytes) (hzs : z.cells.size = size) (hsz : 0 < size)
    (v : Value) (n : Nat) (xs : List Value) (hs : a.eval s = v) (hr : Row w e size v n xs)
    (ad : Addr) (m c : Nat) (news : List Value) (hx : a.eval x = .slice (some ad) m c) (hl : news.length = m * size) (hnews : ∀ j u, news[j]? = some u → w.cell? (ad.add j) = some u) (h1 : ∀ u ∈ news, u.oneCell' = true)
    (hm : 0 < m) (h63 : n + m ≤ maxLen) (hbytes : (n + m) * bytes ≤ 140737488355328)
    (h : ∀ v' w', Row w' e size v' (n + m) (xs ++ news) → Chg (own v) w w' → (∀ b ∈ own v', b ∈ own v ∨ w.heap.size ≤ b) → wpList P ops Q rest (a.put o.dst v') w') : wpList P ops Q (o :: rest) a w :=
  wpList_plain hgd fun _ hK => wp_row_append w s x t ho e i z size bytes ht hi hz hsize hby hzs hsz v n xs hs hr ad m c news hx hl hnews h1 hm h63 hbytes fun v' w' h2 h3 h4 => hK _ _ (h v' w' h2 h3 h4)
/-- At an append in a region that draws. -/
theorem step_row_append {ops : Array Oper} {o : Oper} {a : Act} {K : Act → World → Prop} {Q : Exit → Act → World → Prop} {E : Prop} (hgd : o.guard = none) (s x : Operand) (t : TypeId)
    (ho : o.op = .call { callee := .builtin .append, args := #[s, x], argTypes := #[t, t] })
    (e : TypeId) (i : TypeInfo) (z : Value) (size bytes : Nat) (ht : P.underlying t = some (.slice e)) (hi : P.info? e = some i) (hz : i.zero = some z)
    (hsize : i.size = size) (hby : i.bytes = bytes) (hzs : z.cells.size = size) (hsz : 0 < size)
    (v : Value) (n : Nat) (xs : List Value) (hs : a.eval s = v) (hr : Row w e size v n xs)
    (ad : Addr) (m c : Nat) (news : List Value) (hx : a.eval x = .slice (some ad) m c) (hl : news.length = m * size) (hnews : ∀ j u, news[j]? = some u → w.cell? (ad.add j) = some u) (h1 : ∀ u ∈ news, u.oneCell' = true)
    (hm : 0 < m) (h63 : n + m ≤ maxLen) (hbytes : (n + m) * bytes ≤ 140737488355328)
    (h : ∀ v' w', Row w' e size v' (n + m) (xs ++ news) → Chg (own v) w w' → (∀ b ∈ own v', b ∈ own v ∨ w.heap.size ≤ b) → K (a.put o.dst v') w') :
    if Region.wanted o (yielded ops a.tmps) = true then Oper.wp P o a w K Q else E := by
  have hw : Region.wanted o (yielded ops a.tmps) = true := by simp [Region.wanted, hgd]
  rw [if_pos hw]
  exact wp_row_append w s x t ho e i z size bytes ht hi hz hsize hby hzs hsz v n xs hs hr ad m c news hx hl hnews h1 hm h63 hbytes h
end
/-! ### Octets, and lists of messages -/
/-- The slice v reads as the octets xs. -/
def Byt (w : World) (u8 : TypeId) (v : Value) (xs : List Int) : Prop := Row w u8 1 v xs.length (xs.map (Value.int .u8)) ∧ ∀ x ∈ xs, 0 ≤ x ∧ x ≤ 255
/-- The slice v reads as the messages xs. -/
def Msgs (w : World) (u8 by_ : TypeId) (v : Value) (xs : List (List Int)) : Prop :=
  ∃ vs, Row w by_ 1 v xs.length vs ∧ ∀ (j : Nat) (x : List Int), xs[j]? = some x → ∃ u, vs[j]? = some u ∧ Byt w u8 u x
theorem Byt.chg {w w1 : World} {u8 : TypeId} {v : Value} {xs : List Int} {F : List Nat} (h : Byt w u8 v xs) (hc : Chg F w w1) (hn : ∀ b ∈ own v, b ∉ F) : Byt w1 u8 v xs := ⟨h.1.chg hc hn, h.2⟩
theorem Byt.below {w w1 : World} {u8 : TypeId} {v : Value} {xs : List Int} (h : Byt w u8 v xs) (hb : Below w.heap.size w w1) : Byt w1 u8 v xs := ⟨h.1.below hb, h.2⟩
end Go.Proofs.YtcllbmjmefeknaaGreatK
