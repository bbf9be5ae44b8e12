/- What a link is in memory; how its parts stay as others change. -/
import Derived.Test.YtcllbmjmefeknaaGreatCyc
import Derived.Test.YtcllbmjmefeknaaGreatAln
import Derived.Test.YtcllbmjmefeknaaGreatM
namespace Go.Proofs.YtcllbmjmefeknaaGreatK
open Go Go.RowKit
set_option maxRecDepth 100000
/-! ### Blocks whose types are known -/
def Typed (w : World) (F : List Nat) (ts : List TypeId) : Prop := ∀ g ∈ F, ∃ cs t, Blk w g cs t ∧ t ∈ ts
theorem Typed.off {w : World} {F : List Nat} {ts : List TypeId} (h : Typed w F ts) {t : TypeId} (ht : t ∉ ts) : Off w t F := fun g hg => by
  obtain ⟨cs, u, h1, h2⟩ := h g hg
  exact ⟨cs, u, h1, fun e => ht (e ▸ h2)⟩
theorem Typed.one {w : World} {b : Nat} {cs : Array Value} {t : TypeId} (h : Blk w b cs t) : Typed w [b] [t] := fun g hg => by
  obtain rfl : g = b := by simpa using hg
  exact ⟨_, _, h, by simp⟩
theorem Typed.app {w : World} {F G : List Nat} {ts us : List TypeId} (h : Typed w F ts) (k : Typed w G us) : Typed w (F ++ G) (ts ++ us) := fun g hg => by
  rcases List.mem_append.1 hg with hg | hg
  · obtain ⟨cs, t, h1, h2⟩ := h g hg
    exact ⟨cs, t, h1, List.mem_append.2 (.inl h2)⟩
  · obtain ⟨cs, t, h1, h2⟩ := k g hg
    exact ⟨cs, t, h1, List.mem_append.2 (.inr h2)⟩
theorem Typed.two {w : World} {b c : Nat} {cs ds : Array Value} {t u : TypeId} (h : Blk w b cs t) (k : Blk w c ds u) : Typed w [b, c] [t, u] := (Typed.one h).app (Typed.one k)
theorem Typed.more {w : World} {F : List Nat} {ts us : List TypeId} (h : Typed w F ts) (hs : ∀ t ∈ ts, t ∈ us) : Typed w F us := fun g hg => by
  obtain ⟨cs, t, h1, h2⟩ := h g hg
  exact ⟨cs, t, h1, hs t h2⟩
theorem Typed.nil {w : World} : Typed w [] [] := fun g hg => by simp at hg
theorem Typed.row {w : World} {e : TypeId} {sz n : Nat} {v : Value} {xs : List Value} (h : Row w e sz v n xs) : Typed w (own v) [e] := fun g hg => by
  obtain ⟨cs, h1⟩ := h.blk g hg
  exact ⟨cs, _, h1, by simp⟩
theorem HoAt.typed {w : World} {b : Nat} {h : Ho} {vs vn : Value} (hh : HoAt w b h vs vn) : Typed w (hoF b vs vn) [200, 25, 25] :=
  (Typed.one hh.blk).app ((Typed.row hh.sent.row.choose_spec).app (Typed.row hh.next.row.choose_spec))
theorem Off.notin {w : World} {F : List Nat} {t : TypeId} (h : Off w t F) {b : Nat} {cs : Array Value} (hb : Blk w b cs t) : b ∉ F := fun hm => by
  obtain ⟨cs', u, h1, h2⟩ := h b hm
  exact h1.ne hb h2 rfl
theorem Blk.keep {w w1 : World} {b : Nat} {cs : Array Value} {t : TypeId} {F : List Nat} (hb : Blk w b cs t) (h : Off w t F) (hc : Chg F w w1) : Blk w1 b cs t := hb.chg hc (h.notin hb)
theorem HoAt.keep {w w1 : World} {b : Nat} {h : Ho} {vs vn : Value} {F : List Nat} (hh : HoAt w b h vs vn) (h0 : Off w 5 F) (h1 : Off w 200 F) (h2 : Off w 25 F) (hc : Chg F w w1) : HoAt w1 b h vs vn :=
  hh.stay h0 hc fun g hg hF => by
    obtain ⟨cs, t, b1, b2⟩ := hh.typed g hg
    simp only [List.mem_cons, List.not_mem_nil, or_false] at b2
    rcases b2 with rfl | rfl | rfl
    · exact h1.notin b1 hF
    · exact h2.notin b1 hF
    · exact h2.notin b1 hF
/-! ### What is told -/
def toCells : List (To × Value) → List Value
  | [] => []
  | (t, v) :: l => .int .u8 t.kind :: .int .u8 t.why :: v :: toCells l
theorem toCells_append (a b : List (To × Value)) : toCells (a ++ b) = toCells a ++ toCells b := by
  induction a with
  | nil => rfl
  | cons x a ih => obtain ⟨t, v⟩ := x; simp [toCells, ih]
theorem toCells_length (a : List (To × Value)) : (toCells a).length = a.length * 3 := by
  induction a with
  | nil => rfl
  | cons x a ih => obtain ⟨t, v⟩ := x; simp [toCells, ih]; omega
theorem toCells_get (a : List (To × Value)) (j : Nat) (h : j < a.length) : (toCells a)[3 * j]? = some (.int .u8 a[j].1.kind) ∧ (toCells a)[3 * j + 1]? = some (.int .u8 a[j].1.why) ∧ (toCells a)[3 * j + 2]? = some a[j].2 := by
  induction a generalizing j with
  | nil => simp at h
  | cons x a ih =>
    obtain ⟨t, v⟩ := x
    cases j with
    | zero => simp [toCells]
    | succ j =>
      have := ih j (by simpa using h)
      simp only [List.getElem_cons_succ]
      rw [show 3 * (j + 1) = 3 * j + 3 by omega]
      simpa [toCells] using this
def Tolds (w : World) (v : Value) (l : List To) : Prop :=
  ∃ ps : List (To × Value), ps.map (·.1) = l ∧ Row w 94 3 v l.length (toCells ps) ∧ ∀ p ∈ ps, BytV w p.2 p.1.p
theorem Tolds.nil {w : World} : Tolds w nil0 [] := ⟨[], rfl, Row.nil _ _ _, by simp⟩
theorem Tolds.keep {w w1 : World} {v : Value} {l : List To} {F : List Nat} (h : Tolds w v l) (h0 : Off w 5 F) (h1 : Off w 94 F) (hc : Chg F w w1) : Tolds w1 v l := by
  obtain ⟨ps, e, r, q⟩ := h
  refine ⟨ps, e, r.chg hc fun g hg => ?_, fun p hp => (q p hp).stay h0 hc⟩
  obtain ⟨cs, b1⟩ := r.blk g hg
  exact h1.notin b1
theorem Tolds.typed {w : World} {v : Value} {l : List To} (h : Tolds w v l) : Typed w (own v) [94] := Typed.row h.choose_spec.2.1
theorem Tolds.lt {w : World} {v : Value} {l : List To} (h : Tolds w v l) : ∀ b ∈ own v, b < w.heap.size := h.choose_spec.2.1.lt
theorem Tolds.shape {w : World} {v : Value} {l : List To} (h : Tolds w v l) : ∃ a cap, v = .slice a l.length cap ∧ l.length ≤ cap := h.choose_spec.2.1.shape
/-! ### Either method -/
abbrev Wy.cells : Wy → Nat → Array Value
  | .bs x, bh => Bs.cells x bh
  | .cy x, bh => Cy.cells x bh
abbrev Wy.ty : Wy → TypeId
  | .bs _ => 262
  | .cy _ => 260
abbrev Wy.v : Wy → Nat → Value
  | .bs _, b => .iface 239 (.pointer (some ⟨b, 0, none⟩))
  | .cy _, b => .iface 237 (.pointer (some ⟨b, 0, none⟩))
abbrev WyAt (w : World) (b bh : Nat) (x : Wy) : Prop := Blk w b (x.cells bh) x.ty
theorem Wy.ty_mem (x : Wy) : x.ty ∈ [262, 260] := by cases x <;> simp [Wy.ty]
theorem WyAt.typed {w : World} {b bh : Nat} {x : Wy} (h : WyAt w b bh x) : Typed w [b] [262, 260] := fun g hg => by
  obtain rfl : g = b := by simpa using hg
  exact ⟨_, _, h, x.ty_mem⟩
theorem WyAt.keep {w w1 : World} {b bh : Nat} {x : Wy} {F : List Nat} (h : WyAt w b bh x) (h0 : Off w 262 F) (h1 : Off w 260 F) (hc : Chg F w w1) : WyAt w1 b bh x := by
  cases x
  · exact Blk.keep h h0 hc
  · exact Blk.keep h h1 hc
/-! ### A link -/
structure Lay where
  bc : Nat
  ba : Nat
  bj : Nat
  bw : Nat
  bh : Nat
  vs : Value
  vn : Value
  vt : Value
abbrev St.cells (x : St) (L : Lay) : Array Value := #[.int .u8 x.S, .bool x.s.cyc, .int .i64 x.s.n1, .int .i64 x.s.n2, .int .i64 x.s.hd, .int .i64 x.s.oc, .int .i64 x.s.t0, .int .i64 x.s.t1, .int .i64 x.s.t2, .int .i64 x.s.t3, .int .i64 x.s.t4, .int .i64 x.s.t5, .int .i64 x.s.t6, .int .i64 x.s.t7,
  .pointer (some ⟨L.bc, 0, none⟩), .pointer (some ⟨L.ba, 0, none⟩), .pointer (some ⟨L.bj, 0, none⟩), x.w.v L.bw, .bool x.o.own, .bool x.o.their, .bool x.o.wait, .int .i64 x.leak.n, .int .i64 x.leak.seen, L.vt, .int .i64 x.fails]
structure StAt (w : World) (b : Nat) (x : St) (L : Lay) : Prop where
  st : Blk w b (x.cells L) 62
  ck : CkAt w L.bc x.c
  al : AlAt w L.ba x.s L.bc x.a
  jm : JmAt w L.bj x.s L.bc x.j
  wy : WyAt w L.bw L.bh x.w
  ho : HoAt w L.bh x.h L.vs L.vn
  tl : Tolds w L.vt x.told
abbrev stF (b : Nat) (L : Lay) : List Nat := [b] ++ ([L.ba, L.bc] ++ ([L.bj] ++ ([L.bw] ++ (hoF L.bh L.vs L.vn ++ own L.vt))))
theorem StAt.typed {w : World} {b : Nat} {x : St} {L : Lay} (h : StAt w b x L) : Typed w (stF b L) ([62] ++ ([234, 210] ++ ([236] ++ ([262, 260] ++ ([200, 25, 25] ++ [94]))))) :=
  (Typed.one h.st).app ((Typed.two h.al h.ck).app ((Typed.one h.jm).app ((WyAt.typed h.wy).app (h.ho.typed.app h.tl.typed))))
theorem StAt.lt {w : World} {b : Nat} {x : St} {L : Lay} (h : StAt w b x L) : ∀ k ∈ stF b L, k < w.heap.size := fun k hk => by
  obtain ⟨cs, t, h1, _⟩ := h.typed k hk
  exact h1.lt
theorem StAt.below {w w1 : World} {b : Nat} {x : St} {L : Lay} (h : StAt w b x L) (hb : Below w.heap.size w w1) : StAt w1 b x L :=
  ⟨h.st.below hb, h.ck.below hb, h.al.below hb, h.jm.below hb, h.wy.below hb, h.ho.below hb, h.tl.keep (F := []) (by simp [Off]) (by simp [Off]) (.of_below hb [])⟩
/-- Nothing of it is changed. -/
theorem StAt.far {w w1 : World} {b : Nat} {x : St} {L : Lay} {F : List Nat} (h : StAt w b x L) (h0 : Off w 5 F) (hn : ∀ k ∈ stF b L, k ∉ F) (hc : Chg F w w1) : StAt w1 b x L := by
  refine ⟨h.st.chg hc (hn _ (by simp)), h.ck.chg hc (hn _ (by simp)), h.al.chg hc (hn _ (by simp)), h.jm.chg hc (hn _ (by simp)), h.wy.chg hc (hn _ (by simp)), h.ho.stay h0 hc (fun g hg => hn g (by simp only [stF, List.mem_append]; exact .inr (.inr (.inr (.inr (.inl hg)))))), ?_⟩
  obtain ⟨ps, e, r, q⟩ := h.tl
  exact ⟨ps, e, r.chg hc fun g hg => hn g (by simp only [stF, List.mem_append]; exact .inr (.inr (.inr (.inr (.inr hg))))), fun p hp => (q p hp).stay h0 hc⟩
section
variable {w w1 : World} {b : Nat} {x : St} {L : Lay}
/-- Its own block alone is changed. -/
theorem StAt.own (h : StAt w b x L) {S fails : Int} {o : Oa} {leak : Le} (B : Blk w1 b (({ x with S := S, o := o, leak := leak, fails := fails } : St).cells L) 62) (G : Chg [b] w w1) : StAt w1 b { x with S := S, o := o, leak := leak, fails := fails } L := by
  have T := Typed.one h.st
  exact ⟨B, h.ck.keep (T.off (by decide)) G, h.al.keep (T.off (by decide)) G, h.jm.keep (T.off (by decide)) G, h.wy.keep (T.off (by decide)) (T.off (by decide)) G, h.ho.keep (T.off (by decide)) (T.off (by decide)) (T.off (by decide)) G, h.tl.keep (T.off (by decide)) (T.off (by decide)) G⟩
/-- Its own block is changed, and what is told. -/
theorem StAt.say (h : StAt w b x L) {S fails : Int} {o : Oa} {leak : Le} {told : List To} {vt : Value} {F : List Nat} (B : Blk w1 b (({ x with S := S, o := o, leak := leak, fails := fails, told := told } : St).cells { L with vt := vt }) 62) (K : Tolds w1 vt told) (G : Chg F w w1) (T : Typed w F [62, 94]) :
    StAt w1 b { x with S := S, o := o, leak := leak, fails := fails, told := told } { L with vt := vt } :=
  ⟨B, h.ck.keep (T.off (by decide)) G, h.al.keep (T.off (by decide)) G, h.jm.keep (T.off (by decide)) G, h.wy.keep (T.off (by decide)) (T.off (by decide)) G, h.ho.keep (T.off (by decide)) (T.off (by decide)) (T.off (by decide)) G, K⟩
theorem StAt.byC (h : StAt w b x L) {c : Ck} (C : CkAt w1 L.bc c) (G : Chg [L.bc] w w1) : StAt w1 b { x with c := c } L := by
  have T := Typed.one h.ck
  exact ⟨h.st.keep (T.off (by decide)) G, C, h.al.keep (T.off (by decide)) G, h.jm.keep (T.off (by decide)) G, h.wy.keep (T.off (by decide)) (T.off (by decide)) G, h.ho.keep (T.off (by decide)) (T.off (by decide)) (T.off (by decide)) G, h.tl.keep (T.off (by decide)) (T.off (by decide)) G⟩
theorem StAt.byA (h : StAt w b x L) {r : Al × Ck} (A : AlAt w1 L.ba x.s L.bc r.1) (C : CkAt w1 L.bc r.2) (G : Chg [L.ba, L.bc] w w1) : StAt w1 b (x.setA r) L := by
  have T := Typed.two h.al h.ck
  exact ⟨h.st.keep (T.off (by decide)) G, C, A, h.jm.keep (T.off (by decide)) G, h.wy.keep (T.off (by decide)) (T.off (by decide)) G, h.ho.keep (T.off (by decide)) (T.off (by decide)) (T.off (by decide)) G, h.tl.keep (T.off (by decide)) (T.off (by decide)) G⟩
theorem StAt.byJ (h : StAt w b x L) {r : Jm × Ck} (J : JmAt w1 L.bj x.s L.bc r.1) (C : CkAt w1 L.bc r.2) (G : Chg [L.bj, L.bc] w w1) : StAt w1 b (x.setJ r) L := by
  have T := Typed.two h.jm h.ck
  exact ⟨h.st.keep (T.off (by decide)) G, C, h.al.keep (T.off (by decide)) G, J, h.wy.keep (T.off (by decide)) (T.off (by decide)) G, h.ho.keep (T.off (by decide)) (T.off (by decide)) (T.off (by decide)) G, h.tl.keep (T.off (by decide)) (T.off (by decide)) G⟩
theorem StAt.byJ1 (h : StAt w b x L) {j : Jm} (J : JmAt w1 L.bj x.s L.bc j) (G : Chg [L.bj] w w1) : StAt w1 b { x with j := j } L := by
  have T := Typed.one h.jm
  exact ⟨h.st.keep (T.off (by decide)) G, h.ck.keep (T.off (by decide)) G, h.al.keep (T.off (by decide)) G, J, h.wy.keep (T.off (by decide)) (T.off (by decide)) G, h.ho.keep (T.off (by decide)) (T.off (by decide)) (T.off (by decide)) G, h.tl.keep (T.off (by decide)) (T.off (by decide)) G⟩
theorem StAt.byH (h : StAt w b x L) {o : Ho} {vs vn : Value} {F : List Nat} (H : HoAt w1 L.bh o vs vn) (G : Chg F w w1) (T : Typed w F [200, 25, 25]) : StAt w1 b (x.setH o) { L with vs := vs, vn := vn } :=
  ⟨h.st.keep (T.off (by decide)) G, h.ck.keep (T.off (by decide)) G, h.al.keep (T.off (by decide)) G, h.jm.keep (T.off (by decide)) G, h.wy.keep (T.off (by decide)) (T.off (by decide)) G, H, h.tl.keep (T.off (by decide)) (T.off (by decide)) G⟩
theorem Wy.v_eq {x y : Wy} (e : x.ty = y.ty) (b : Nat) : x.v b = y.v b := by
  cases x <;> cases y <;> first | rfl | (simp [Wy.ty] at e)
theorem StAt.byW (h : StAt w b x L) {y : Wy} (Y : WyAt w1 L.bw L.bh y) (e : x.w.ty = y.ty) (G : Chg [L.bw] w w1) : StAt w1 b (x.setW y) L := by
  have T := WyAt.typed h.wy
  exact ⟨(h.st.keep (T.off (by decide)) G).as (by simp [St.setW, Wy.v_eq e]), h.ck.keep (T.off (by decide)) G, h.al.keep (T.off (by decide)) G, h.jm.keep (T.off (by decide)) G, Y, h.ho.keep (T.off (by decide)) (T.off (by decide)) (T.off (by decide)) G, h.tl.keep (T.off (by decide)) (T.off (by decide)) G⟩
theorem StAt.byHW (h : StAt w b x L) {o : Ho} {y : Wy} {vs vn : Value} {F : List Nat} (H : HoAt w1 L.bh o vs vn) (Y : WyAt w1 L.bw L.bh y) (e : x.w.ty = y.ty) (G : Chg F w w1) (hF : ∀ k ∈ F, k ∈ L.bw :: hoF L.bh L.vs L.vn) : StAt w1 b ((x.setH o).setW y) { L with vs := vs, vn := vn } := by
  have T0 : Typed w (L.bw :: hoF L.bh L.vs L.vn) ([262, 260] ++ [200, 25, 25]) := (WyAt.typed h.wy).app h.ho.typed
  have T : Typed w F ([262, 260] ++ [200, 25, 25]) := fun g hg => T0 g (hF g hg)
  exact ⟨(h.st.keep (T.off (by decide)) G).as (by simp [St.setW, St.setH, Wy.v_eq e]), h.ck.keep (T.off (by decide)) G, h.al.keep (T.off (by decide)) G, h.jm.keep (T.off (by decide)) G, Y, H, h.tl.keep (T.off (by decide)) (T.off (by decide)) G⟩
end
/-- What an operation on a link leaves. -/
def StTo (w w' : World) (b : Nat) (x : St) (L : Lay) : Prop := ∃ L', StAt w' b x L' ∧ Chg (stF b L) w w' ∧ ∀ k ∈ stF b L', k ∈ stF b L ∨ w.heap.size ≤ k
theorem StTo.same {w : World} {b : Nat} {x : St} {L : Lay} (h : StAt w b x L) : StTo w w b x L := ⟨L, h, Chg.refl _ _, fun _ hk => .inl hk⟩
theorem StTo.mk1 {w w' : World} {b : Nat} {x : St} {L : Lay} {F : List Nat} (h : StAt w' b x L) (G : Chg F w w') (hF : ∀ k ∈ F, k ∈ stF b L) : StTo w w' b x L := ⟨L, h, G.more hF, fun _ hk => .inl hk⟩
theorem StTo.below {w w' : World} {b : Nat} {x : St} {L : Lay} (h : StAt w b x L) (hb : Below w.heap.size w w') : StTo w w' b x L := ⟨L, h.below hb, Chg.of_below hb _, fun _ hk => .inl hk⟩
theorem StTo.then {w w1 w2 : World} {b : Nat} {y : St} {L L1 : Lay} (G : Chg (stF b L) w w1) (O : ∀ k ∈ stF b L1, k ∈ stF b L ∨ w.heap.size ≤ k) (k : StTo w1 w2 b y L1) : StTo w w2 b y L := by
  obtain ⟨L2, h2, G2, O2⟩ := k
  refine ⟨L2, h2, G.trans G2 O, fun k hk => ?_⟩
  rcases O2 k hk with h | h
  · exact O k h
  · exact .inr (Nat.le_trans G.size h)
section
variable {w w1 w2 : World} {b : Nat} {y : St} {L : Lay}
theorem StTo.stepF {F : List Nat} (G : Chg F w w1) (hF : ∀ k ∈ F, k ∈ stF b L) (k : StTo w1 w2 b y L) : StTo w w2 b y L := StTo.then (G.more hF) (fun _ hk => .inl hk) k
theorem StTo.stepA (G : Chg [L.ba, L.bc] w w1) (k : StTo w1 w2 b y L) : StTo w w2 b y L := StTo.stepF G (fun k hk => by simp only [List.mem_cons, List.not_mem_nil, or_false] at hk; rcases hk with rfl | rfl <;> simp) k
theorem StTo.stepJ (G : Chg [L.bj, L.bc] w w1) (k : StTo w1 w2 b y L) : StTo w w2 b y L := StTo.stepF G (fun k hk => by simp only [List.mem_cons, List.not_mem_nil, or_false] at hk; rcases hk with rfl | rfl <;> simp) k
theorem StTo.stepJ1 (G : Chg [L.bj] w w1) (k : StTo w1 w2 b y L) : StTo w w2 b y L := StTo.stepF G (fun i hi => by rw [List.mem_singleton] at hi; rw [hi]; simp) k
theorem StTo.stepC (G : Chg [L.bc] w w1) (k : StTo w1 w2 b y L) : StTo w w2 b y L := StTo.stepF G (fun i hi => by rw [List.mem_singleton] at hi; rw [hi]; simp) k
theorem StTo.stepW (G : Chg [L.bw] w w1) (k : StTo w1 w2 b y L) : StTo w w2 b y L := StTo.stepF G (fun i hi => by rw [List.mem_singleton] at hi; rw [hi]; simp) k
theorem StTo.stepS (G : Chg [b] w w1) (k : StTo w1 w2 b y L) : StTo w w2 b y L := StTo.stepF G (fun i hi => by rw [List.mem_singleton] at hi; rw [hi]; simp) k
theorem StTo.stepB (B : Below w.heap.size w w1) (k : StTo w1 w2 b y L) : StTo w w2 b y L := StTo.stepF (F := []) (.of_below B _) (by simp) k
theorem StTo.stepH {F : List Nat} {vs vn : Value} (G : Chg F w w1) (hF : ∀ k ∈ F, k ∈ L.bw :: hoF L.bh L.vs L.vn) (O : ∀ k ∈ Go.Proofs.YtcllbmjmefeknaaGreatK.own vs ++ Go.Proofs.YtcllbmjmefeknaaGreatK.own vn, k ∈ Go.Proofs.YtcllbmjmefeknaaGreatK.own L.vs ++ Go.Proofs.YtcllbmjmefeknaaGreatK.own L.vn ∨ w.heap.size ≤ k) (k : StTo w1 w2 b y { L with vs := vs, vn := vn }) : StTo w w2 b y L := by
  refine StTo.then (G.more fun k hk => ?_) (fun k hk => ?_) k
  · have := hF k hk
    simp only [stF, List.mem_append, List.mem_cons, List.not_mem_nil, or_false] at this ⊢
    rcases this with h | h | h | h
    · exact .inr (.inr (.inr (.inl h)))
    · exact .inr (.inr (.inr (.inr (.inl (.inl h)))))
    · exact .inr (.inr (.inr (.inr (.inl (.inr (.inl h))))))
    · exact .inr (.inr (.inr (.inr (.inl (.inr (.inr h))))))
  · have O' := O k
    simp only [stF, List.mem_append, List.mem_cons, List.not_mem_nil, or_false] at hk O' ⊢
    rcases hk with h | h | h | h | (h | h) | h
    · exact .inl (.inl h)
    · exact .inl (.inr (.inl h))
    · exact .inl (.inr (.inr (.inl h)))
    · exact .inl (.inr (.inr (.inr (.inl h))))
    · exact .inl (.inr (.inr (.inr (.inr (.inl (.inl h))))))
    · rcases O' h with h | h
      · exact .inl (.inr (.inr (.inr (.inr (.inl (.inr h))))))
      · exact .inr h
    · exact .inl (.inr (.inr (.inr (.inr (.inr h)))))
end
end Go.Proofs.YtcllbmjmefeknaaGreatK
