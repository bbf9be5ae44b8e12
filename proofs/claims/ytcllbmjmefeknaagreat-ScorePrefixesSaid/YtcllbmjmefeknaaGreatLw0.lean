/- What a law holds of a link from call to call; the small functions of layer 17's laws. The walks of serving, awake, wait (layer 17's laws). The walks of awake, wait (layer 17's laws). -/
import Derived.Test.YtcllbmjmefeknaaGreatSta5
import Derived.Test.YtcllbmjmefeknaaGreatSta2
import Derived.Test.YtcllbmjmefeknaaGreatSta1
import Derived.Test.YtcllbmjmefeknaaGreatM
namespace Go.Proofs.YtcllbmjmefeknaaGreatK
/-! ### What a law holds of a link from call to call; the small functions of layer 17's laws. -/
section
open Go Go.RowKit
set_option linter.unusedVariables false
set_option maxHeartbeats 1000000
set_option maxRecDepth 100000
/-- A link that lives: what a law holds of it from call to call. -/
structure Lv (w0 w : World) (b : Nat) (x : St) : Prop where
  bel : Below w0.heap.size w0 w
  lay : ∃ L, StAt w b x L ∧ ∀ k ∈ stF b L, w0.heap.size ≤ k
/-- The types of a link's blocks. -/
abbrev linkTs : List TypeId := [62, 234, 210, 236, 262, 260, 200, 25, 25, 94]
/-- What is no link's stays as it was. -/
structure Kp (w w' : World) : Prop where
  size : w.heap.size ≤ w'.heap.size
  blk : ∀ {g : Nat} {cs : Array Value} {t : TypeId}, Blk w g cs t → t ∉ linkTs → Blk w' g cs t
  byt : ∀ {v : Value} {xs : Oct}, BytV w v xs → BytV w' v xs
  obj : ∀ {g : Nat} {o : Obj}, w.heap[g]? = some o → (∀ cs t, o = .cells cs t (0, 0) → t ∉ linkTs) → w'.heap[g]? = some o
theorem Typed.obj {w w' : World} {F : List Nat} (h : Typed w F linkTs) (G : Chg F w w') {g : Nat} {o : Obj} (hg : w.heap[g]? = some o) (ho : ∀ cs t, o = .cells cs t (0, 0) → t ∉ linkTs) : w'.heap[g]? = some o := by
  rw [G.blk g (Array.getElem?_eq_some_iff.1 hg).1 (fun hF => ?_), hg]
  obtain ⟨cs, t, h1, h2⟩ := h g hF
  have e : some o = some (.cells cs t (0, 0)) := hg.symm.trans h1
  exact ho cs t (Option.some.inj e) h2
theorem Kp.of {w w' : World} {b : Nat} {x y : St} {L : Lay} (S : StAt w b x L) (T : StTo w w' b y L) : Kp w w' := by
  obtain ⟨L', S', G, O⟩ := T
  exact ⟨G.size, fun h ht => h.keep (S.typed.off ht) G, fun h => h.stay (S.typed.off (by decide)) G, fun hg ho => Typed.obj S.typed G hg ho⟩
theorem Kp.below {w w' : World} (h : Below w.heap.size w w') : Kp w w' := ⟨h.size, fun hb _ => hb.below h, fun hb => hb.below h, fun hg _ => (h.block _ (Array.getElem?_eq_some_iff.1 hg).1).trans hg⟩
theorem Kp.trans {w w1 w2 : World} (h : Kp w w1) (k : Kp w1 w2) : Kp w w2 := ⟨Nat.le_trans h.size k.size, fun hb ht => k.blk (h.blk hb ht) ht, fun hb => k.byt (h.byt hb), fun hg ho => k.obj (h.obj hg ho) ho⟩
theorem Lv.of {w0 w w' : World} {b : Nat} {y : St} {L : Lay} (B : Below w0.heap.size w0 w) (F : ∀ k ∈ stF b L, w0.heap.size ≤ k) (T : StTo w w' b y L) : Lv w0 w' b y := by
  obtain ⟨L', S', G, O⟩ := T
  refine ⟨B.trans (G.to_below B.size F), L', S', fun k hk => ?_⟩
  rcases O k hk with h | h
  · exact F k h
  · exact Nat.le_trans B.size h
section
variable {w0 w : World} {b : Nat} {x : St}
theorem Lv.below {w1 : World} (h : Lv w0 w b x) (hb : Below w.heap.size w w1) : Lv w0 w1 b x := by
  obtain ⟨L, S, F⟩ := h.lay
  exact ⟨bl_then h.bel hb, L, S.below hb, F⟩
theorem Lv.S (h : Lv w0 w b x) : w.cell? ⟨b, 0, none⟩ = some (.int .u8 x.S) := by
  obtain ⟨L, S, F⟩ := h.lay
  rw [S.st.c]; rfl
theorem Lv.own (h : Lv w0 w b x) : w.cell? ⟨b, 18, none⟩ = some (.bool x.o.own) := by
  obtain ⟨L, S, F⟩ := h.lay
  rw [S.st.c]; rfl
theorem Lv.their (h : Lv w0 w b x) : w.cell? ⟨b, 19, none⟩ = some (.bool x.o.their) := by
  obtain ⟨L, S, F⟩ := h.lay
  rw [S.st.c]; rfl
theorem Lv.tick (h : Lv w0 w b x) (hk : x.ok) (hf : x.few 900000) :
    Calls Tryz.prog 100 #[.pointer (some ⟨b, 0, none⟩)] w fun e w' => e = .returned (.tuple #[]) ∧ Lv w0 w' b x.tick ∧ Kp w w' := by
  obtain ⟨L, S, F⟩ := h.lay
  exact (STick_c S hk hf).mono fun e w' ⟨he, T⟩ => ⟨he, Lv.of h.bel F T, Kp.of S T⟩
theorem Lv.hear (h : Lv w0 w b x) (hk : x.ok) (hf : x.few 800000) {u : Un} {vi : Value} (hu : u.ok) (hv : BytV w vi u.info) :
    Calls Tryz.prog 123 #[.pointer (some ⟨b, 0, none⟩), u.v vi] w fun e w' => e = .returned (.tuple #[]) ∧ Lv w0 w' b (x.hear u) ∧ Kp w w' := by
  obtain ⟨L, S, F⟩ := h.lay
  exact (Hear_c S hk hf hu (hv.i (S.typed.off (by decide)))).mono fun e w' ⟨he, T⟩ => ⟨he, Lv.of h.bel F T, Kp.of S T⟩
theorem BytI.since {w0 w : World} {F : List Nat} {v : Value} {xs : Oct} (h : BytI w0 [] v xs) (hb : Below w0.heap.size w0 w) (hF : ∀ k ∈ F, w0.heap.size ≤ k) : BytI w F v xs :=
  (h.mono (G := F) fun k hk => .inr (hF k hk)).below hb
/-- .. octets that were there when the law began. -/
theorem Lv.hearI (h : Lv w0 w b x) (hk : x.ok) (hf : x.few 800000) {u : Un} {vi : Value} (hu : u.ok) (hv : BytI w0 [] vi u.info) :
    Calls Tryz.prog 123 #[.pointer (some ⟨b, 0, none⟩), u.v vi] w fun e w' => e = .returned (.tuple #[]) ∧ Lv w0 w' b (x.hear u) ∧ Kp w w' := by
  obtain ⟨L, S, F⟩ := h.lay
  exact (Hear_c S hk hf hu (hv.since h.bel F)).mono fun e w' ⟨he, T⟩ => ⟨he, Lv.of h.bel F T, Kp.of S T⟩
theorem Lv.orderI (h : Lv w0 w b x) (hk : x.ok) (hf : x.few 900000) (k : Int) {vp : Value} {p : Oct} (hv : BytI w0 [] vp p) (hl : p.length ≤ 100000) :
    Calls Tryz.prog 105 #[.pointer (some ⟨b, 0, none⟩), .agg #[.int .u8 k, vp]] w fun e w' => e = .returned (.int .i64 (x.order k p).2) ∧ Lv w0 w' b (x.order k p).1 ∧ Kp w w' := by
  obtain ⟨L, S, F⟩ := h.lay
  exact (Order_c S hk hf k (hv.since h.bel F) hl).mono fun e w' ⟨he, T⟩ => ⟨he, Lv.of h.bel F T, Kp.of S T⟩
theorem Lv.hear0 (h : Lv w0 w b x) (hk : x.ok) (hf : x.few 800000) {u : Un} (hu : u.ok) (hi : u.info = []) :
    Calls Tryz.prog 123 #[.pointer (some ⟨b, 0, none⟩), u.v nil0] w fun e w' => e = .returned (.tuple #[]) ∧ Lv w0 w' b (x.hear u) ∧ Kp w w' := h.hear hk hf hu (hi ▸ byt_nil)
theorem Lv.damage (h : Lv w0 w b x) (hk : x.ok) (hf : x.few 900000) :
    Calls Tryz.prog 122 #[.pointer (some ⟨b, 0, none⟩)] w fun e w' => e = .returned (.tuple #[]) ∧ Lv w0 w' b (x.count true) ∧ Kp w w' := by
  obtain ⟨L, S, F⟩ := h.lay
  exact (Damage_c S hk (hf.le (by omega))).mono fun e w' ⟨he, T⟩ => ⟨he, Lv.of h.bel F T, Kp.of S T⟩
theorem Lv.next (h : Lv w0 w b x) (hk : x.ok) :
    Calls Tryz.prog 125 #[.pointer (some ⟨b, 0, none⟩)] w fun e w' => ∃ vi, e = .returned (x.next.2.v vi) ∧ BytV w' vi x.next.2.info ∧ Lv w0 w' b x.next.1 ∧ Kp w w' := by
  obtain ⟨L, S, F⟩ := h.lay
  exact (SNext_c S hk).mono fun e w' ⟨⟨vi, he, hv, hf⟩, T⟩ => ⟨vi, he, hv, Lv.of h.bel F T, Kp.of S T⟩
theorem Lv.order (h : Lv w0 w b x) (hk : x.ok) (hf : x.few 900000) (k : Int) {vp : Value} {p : Oct} (hv : BytV w vp p) (hl : p.length ≤ 100000) :
    Calls Tryz.prog 105 #[.pointer (some ⟨b, 0, none⟩), .agg #[.int .u8 k, vp]] w fun e w' => e = .returned (.int .i64 (x.order k p).2) ∧ Lv w0 w' b (x.order k p).1 ∧ Kp w w' := by
  obtain ⟨L, S, F⟩ := h.lay
  exact (Order_c S hk hf k (hv.i (S.typed.off (by decide))) hl).mono fun e w' ⟨he, T⟩ => ⟨he, Lv.of h.bel F T, Kp.of S T⟩
theorem Lv.order0 (h : Lv w0 w b x) (hk : x.ok) (hf : x.few 900000) (k : Int) :
    Calls Tryz.prog 105 #[.pointer (some ⟨b, 0, none⟩), .agg #[.int .u8 k, nil0]] w fun e w' => e = .returned (.int .i64 (x.order k []).2) ∧ Lv w0 w' b (x.order k []).1 ∧ Kp w w' := h.order hk hf k byt_nil (by simp)
/-- A told slice, as a law reads it. -/
def ToldV (w : World) (v : Value) (l : List To) : Prop :=
  (∃ a cap, v = .slice a l.length cap) ∧ ∀ (j : Nat) (t : To), l[j]? = some t → ∃ bl off cap, v = .slice (some ⟨bl, off, none⟩) l.length cap ∧ w.cell? ⟨bl, off + 3 * j, none⟩ = some (.int .u8 t.kind) ∧ w.cell? ⟨bl, off + 3 * j + 1, none⟩ = some (.int .u8 t.why) ∧ ∃ vp, w.cell? ⟨bl, off + 3 * j + 2, none⟩ = some vp ∧ BytV w vp t.p
theorem Tolds.v {w : World} {v : Value} {l : List To} (h : Tolds w v l) : ToldV w v l := by
  obtain ⟨a, cap, e, _⟩ := h.shape
  refine ⟨⟨a, cap, e⟩, fun j t hj => ?_⟩
  obtain ⟨ps, ep, r, q⟩ := h
  have hl : j < l.length := (List.getElem?_eq_some_iff.1 hj).1
  have hp : j < ps.length := by have := congrArg List.length ep; simp at this; omega
  have et : ps[j].1 = t := by
    have : (ps.map (·.1))[j]? = some t := by rw [ep]; exact hj
    simpa [List.getElem?_eq_getElem hp] using this
  obtain ⟨c0, c1, c2⟩ := toCells_get ps j hp
  rcases r.2 with ⟨_, h0⟩ | ⟨bl, off, cap', cs, hv, h1, h2, h3, h4, h5⟩
  · omega
  · refine ⟨bl, off, cap', hv, ?_, ?_, ps[j].2, ?_, ?_⟩
    · rw [h3.c, h5 _ _ c0, et]
    · rw [h3.c]; exact h5 _ _ (et ▸ c1)
    · rw [h3.c]; exact h5 _ _ c2
    · exact et ▸ q _ (List.getElem_mem hp)
theorem Lv.told (h : Lv w0 w b x) :
    Calls Tryz.prog 104 #[.pointer (some ⟨b, 0, none⟩)] w fun e w' => ∃ v, e = .returned v ∧ ToldV w' v x.told ∧ Lv w0 w' b { x with told := [] } ∧ Kp w w' := by
  obtain ⟨L, S, F⟩ := h.lay
  refine (Told_c S).mono fun e w' ⟨he, S', K, G⟩ => ⟨_, he, K.v, ⟨h.bel.trans (G.to_below h.bel.size fun k hk => F k (by simp at hk; simp [hk])), _, S', fun k hk => F k ?_⟩, ⟨G.size, fun hb ht => hb.keep (((Typed.one S.st).more (us := linkTs) (by simp)).off ht) G, fun hb => hb.stay ((Typed.one S.st).off (by decide)) G, fun hg ho => Typed.obj ((Typed.one S.st).more (us := linkTs) (by simp)) G hg ho⟩⟩
  simp only [stF, Go.Proofs.YtcllbmjmefeknaaGreatK.own, Value.ownBlock, List.mem_append] at hk ⊢
  rcases hk with h | h | h | h | h | h
  · exact .inl h
  · exact .inr (.inl h)
  · exact .inr (.inr (.inl h))
  · exact .inr (.inr (.inr (.inl h)))
  · exact .inr (.inr (.inr (.inr (.inl h))))
  · simp at h
end
/-! ### The small functions -/
theorem Su.laid : Laid Tryz.prog 24 13 := ⟨⟨_, Tryz.underlying24, rfl⟩, by kernel_rfl⟩
theorem Usual_c (cyc : Bool) (w : World) : Calls Tryz.prog 15 #[.bool cyc] w fun e w' => e = .returned (Su.v ⟨cyc, 8, 300, 16, 600, 600, 12000, 8000, 4000, 1200, 100, 4000, 6000⟩) ∧ Below w.heap.size w w' := by
  go_enter Tryz.func15, Tryz.ntmps15
  go_wp2
  exact bodyPost_ret (res_c rfl Su.laid rfl (Blk.new _ _ _) rfl) rfl ⟨rfl, bl_alloc (bl_refl w) _⟩
theorem Blk.all13 {w : World} {g : Nat} {t : TypeId} {cs : Array Value} (h : Blk w g cs t) (hs : cs.size = 13) (v0 v1 v2 v3 v4 v5 v6 v7 v8 v9 v10 v11 v12 : Value) : Blk (((((((((((((w.setCell ⟨g, 0, none⟩ v0).setCell ⟨g, 1, none⟩ v1).setCell ⟨g, 2, none⟩ v2).setCell ⟨g, 3, none⟩ v3).setCell ⟨g, 4, none⟩ v4).setCell ⟨g, 5, none⟩ v5).setCell ⟨g, 6, none⟩ v6).setCell ⟨g, 7, none⟩ v7).setCell ⟨g, 8, none⟩ v8).setCell ⟨g, 9, none⟩ v9).setCell ⟨g, 10, none⟩ v10).setCell ⟨g, 11, none⟩ v11).setCell ⟨g, 12, none⟩ v12) g #[v0, v1, v2, v3, v4, v5, v6, v7, v8, v9, v10, v11, v12] t := by
  obtain ⟨l⟩ := cs
  simp only [List.size_toArray] at hs
  match l, hs with
  | [a0, a1, a2, a3, a4, a5, a6, a7, a8, a9, a10, a11, a12], _ => exact ((((((((((((((h.set 0 v0).set 1 v1).set 2 v2).set 3 v3).set 4 v4).set 5 v5).set 6 v6).set 7 v7).set 8 v8).set 9 v9).set 10 v10).set 11 v11).set 12 v12)).as (by simp)
theorem bl_all13 {w0 w : World} {g : Nat} (h : Below w0.heap.size w0 w) (hg : w0.heap.size ≤ g) (v0 v1 v2 v3 v4 v5 v6 v7 v8 v9 v10 v11 v12 : Value) : Below w0.heap.size w0 (((((((((((((w.setCell ⟨g, 0, none⟩ v0).setCell ⟨g, 1, none⟩ v1).setCell ⟨g, 2, none⟩ v2).setCell ⟨g, 3, none⟩ v3).setCell ⟨g, 4, none⟩ v4).setCell ⟨g, 5, none⟩ v5).setCell ⟨g, 6, none⟩ v6).setCell ⟨g, 7, none⟩ v7).setCell ⟨g, 8, none⟩ v8).setCell ⟨g, 9, none⟩ v9).setCell ⟨g, 10, none⟩ v10).setCell ⟨g, 11, none⟩ v11).setCell ⟨g, 12, none⟩ v12) := by
  repeat (refine bl_set ?_ hg _)
  exact h
theorem New_c (cyc : Bool) (w : World) : Calls Tryz.prog 98 #[(quickS cyc).v] w fun e w' => ∃ b, e = .returned (.pointer (some ⟨b, 0, none⟩)) ∧ Lv w w' b (born cyc) :=
  (SNew_c (quickS cyc) w).mono fun e w' ⟨b, L, he, S, B, F⟩ => ⟨b, he, B, L, S, F⟩
end
/-! ### The walks of serving, awake, wait (layer 17's laws). -/
section
open Go Go.RowKit
set_option linter.unusedVariables false
set_option maxHeartbeats 600000
set_option maxRecDepth 100000
/-- A link that lives, in bounds. -/
structure Lk (w0 w : World) (b : Nat) (x : St) (n : Int) : Prop where
  v : Lv w0 w b x
  k : x.ok
  f : x.few n
section
variable {w0 w : World} {b : Nat} {x : St} {n : Int}
theorem Lk.below {w1 : World} (h : Lk w0 w b x n) (hb : Below w.heap.size w w1) : Lk w0 w1 b x n := ⟨h.v.below hb, h.k, h.f⟩
theorem Lk.lt (h : Lk w0 w b x n) : b < w.heap.size := by
  obtain ⟨L, S, F⟩ := h.v.lay
  exact S.st.lt
theorem Lk.base {w9 : World} (h : Lk w0 w b x n) (hb : Below w9.heap.size w9 w0) : Lk w9 w b x n := by
  obtain ⟨L, S, F⟩ := h.v.lay
  exact ⟨⟨bl_then hb h.v.bel, L, S, fun k hk => Nat.le_trans hb.size (F k hk)⟩, h.k, h.f⟩
theorem Lk.tick (h : Lk w0 w b x n) (hn : n ≤ 800000) :
    Calls Tryz.prog 100 #[.pointer (some ⟨b, 0, none⟩)] w fun e w' => e = .returned (.tuple #[]) ∧ Lk w0 w' b x.tick (n + 8) ∧ Kp w w' :=
  (h.v.tick h.k (h.f.le (by omega))).mono fun _ _ ⟨he, V, K⟩ => ⟨he, ⟨V, St.ok_tick h.k, St.few_tick h.f⟩, K⟩
theorem Lk.hear (h : Lk w0 w b x n) (hn : n ≤ 800000) {u : Un} {vi : Value} (hu : u.ok) (hv : BytV w vi u.info) :
    Calls Tryz.prog 123 #[.pointer (some ⟨b, 0, none⟩), u.v vi] w fun e w' => e = .returned (.tuple #[]) ∧ Lk w0 w' b (x.hear u) (n + 6) ∧ Kp w w' :=
  (h.v.hear h.k (h.f.le (by omega)) hu hv).mono fun _ _ ⟨he, V, K⟩ => ⟨he, ⟨V, St.ok_hear h.k _, St.few_hear h.f _⟩, K⟩
theorem Lk.hearI (h : Lk w0 w b x n) (hn : n ≤ 800000) {u : Un} {vi : Value} (hu : u.ok) (hv : BytI w0 [] vi u.info) :
    Calls Tryz.prog 123 #[.pointer (some ⟨b, 0, none⟩), u.v vi] w fun e w' => e = .returned (.tuple #[]) ∧ Lk w0 w' b (x.hear u) (n + 6) ∧ Kp w w' :=
  (h.v.hearI h.k (h.f.le (by omega)) hu hv).mono fun _ _ ⟨he, V, K⟩ => ⟨he, ⟨V, St.ok_hear h.k _, St.few_hear h.f _⟩, K⟩
theorem Lk.orderI (h : Lk w0 w b x n) (hn : n ≤ 800000) (k : Int) {vp : Value} {p : Oct} (hv : BytI w0 [] vp p) (hl : p.length ≤ 100000) :
    Calls Tryz.prog 105 #[.pointer (some ⟨b, 0, none⟩), .agg #[.int .u8 k, vp]] w fun e w' => e = .returned (.int .i64 (x.order k p).2) ∧ Lk w0 w' b (x.order k p).1 (n + 1) ∧ Kp w w' :=
  (h.v.orderI h.k (h.f.le (by omega)) k hv hl).mono fun _ _ ⟨he, V, K⟩ => ⟨he, ⟨V, St.ok_order h.k _ _, St.few_order h.f _ _⟩, K⟩
theorem Lk.hear0 (h : Lk w0 w b x n) (u : Un) (hn : n ≤ 800000) (hu : u.ok) (hi : u.info = []) :
    Calls Tryz.prog 123 #[.pointer (some ⟨b, 0, none⟩), u.v nil0] w fun e w' => e = .returned (.tuple #[]) ∧ Lk w0 w' b (x.hear u) (n + 6) ∧ Kp w w' := h.hear hn hu (hi ▸ byt_nil)
theorem Lk.damage (h : Lk w0 w b x n) (hn : n ≤ 800000) :
    Calls Tryz.prog 122 #[.pointer (some ⟨b, 0, none⟩)] w fun e w' => e = .returned (.tuple #[]) ∧ Lk w0 w' b (x.count true) (n + 1) ∧ Kp w w' :=
  (h.v.damage h.k (h.f.le (by omega))).mono fun _ _ ⟨he, V, K⟩ => ⟨he, ⟨V, St.ok_count h.k _, St.few_count h.f _⟩, K⟩
theorem Lk.next (h : Lk w0 w b x n) :
    Calls Tryz.prog 125 #[.pointer (some ⟨b, 0, none⟩)] w fun e w' => ∃ vi, e = .returned (x.next.2.v vi) ∧ BytV w' vi x.next.2.info ∧ Lk w0 w' b x.next.1 n ∧ Kp w w' :=
  (h.v.next h.k).mono fun _ _ ⟨vi, he, hv, V, K⟩ => ⟨vi, he, hv, ⟨V, St.ok_next h.k, St.few_next h.f⟩, K⟩
theorem Lk.order (h : Lk w0 w b x n) (hn : n ≤ 800000) (k : Int) {vp : Value} {p : Oct} (hv : BytV w vp p) (hl : p.length ≤ 100000) :
    Calls Tryz.prog 105 #[.pointer (some ⟨b, 0, none⟩), .agg #[.int .u8 k, vp]] w fun e w' => e = .returned (.int .i64 (x.order k p).2) ∧ Lk w0 w' b (x.order k p).1 (n + 1) ∧ Kp w w' :=
  (h.v.order h.k (h.f.le (by omega)) k hv hl).mono fun _ _ ⟨he, V, K⟩ => ⟨he, ⟨V, St.ok_order h.k _ _, St.few_order h.f _ _⟩, K⟩
theorem Lk.order0 (h : Lk w0 w b x n) (k : Int) (hn : n ≤ 800000) :
    Calls Tryz.prog 105 #[.pointer (some ⟨b, 0, none⟩), .agg #[.int .u8 k, nil0]] w fun e w' => e = .returned (.int .i64 (x.order k []).2) ∧ Lk w0 w' b (x.order k []).1 (n + 1) ∧ Kp w w' := h.order hn k byt_nil (by simp)
theorem Lk.told (h : Lk w0 w b x n) :
    Calls Tryz.prog 104 #[.pointer (some ⟨b, 0, none⟩)] w fun e w' => ∃ v, e = .returned v ∧ ToldV w' v x.told ∧ Lk w0 w' b { x with told := [] } n ∧ Kp w w' :=
  h.v.told.mono fun _ _ ⟨v, he, K, V, K2⟩ => ⟨v, he, K, ⟨V, ⟨h.k.h, h.k.w, h.k.a, h.k.leak, h.k.c, h.k.S⟩, ⟨by simp; exact Int.le_trans h.f.2.1 h.f.2.2, h.f.2.1, h.f.2.2⟩⟩, K2⟩
end
theorem ToldV.nil {w : World} {v : Value} (h : ToldV w v []) : ∃ a cap, v = .slice a 0 cap := h.1
theorem ToldV.one {w : World} {v : Value} {t : To} (h : ToldV w v [t]) : ∃ bl off cap, v = .slice (some ⟨bl, off, none⟩) 1 cap ∧ w.cell? ⟨bl, off, none⟩ = some (.int .u8 t.kind) ∧ w.cell? ⟨bl, off + 1, none⟩ = some (.int .u8 t.why) ∧ ∃ vp, w.cell? ⟨bl, off + 2, none⟩ = some vp ∧ BytV w vp t.p := h.2 0 t rfl
theorem NewL_c (cyc : Bool) (w : World) : Calls Tryz.prog 98 #[(quickS cyc).v] w fun e w' => ∃ b, e = .returned (.pointer (some ⟨b, 0, none⟩)) ∧ Lk w w' b (born cyc) 0 :=
  (New_c cyc w).mono fun _ _ ⟨b, he, V⟩ => ⟨b, he, V, born_ok cyc, born_few cyc⟩
end
/-! ### The walks of awake, wait (layer 17's laws). -/
section
open Go Go.RowKit
set_option linter.unusedVariables false
set_option maxHeartbeats 600000
set_option maxRecDepth 100000
theorem byt_new3 {w : World} {x y z : Int} (hx : 0 ≤ x ∧ x ≤ 255) (hy : 0 ≤ y ∧ y ≤ 255) (hz : 0 ≤ z ∧ z ≤ 255) : BytV (w.alloc (.cells #[.int .u8 x, .int .u8 y, .int .u8 z] 5)) (.slice (some ⟨w.heap.size, 0, none⟩) 3 3) [x, y, z] := by
  refine ⟨⟨by simp, .inr ⟨w.heap.size, 0, 3, _, rfl, by simp, by simp [maxLen], Blk.new _ _ _, by simp, fun j u hu => ?_⟩⟩, fun v hv => ?_⟩
  · simpa using hu
  · simp only [List.mem_cons, List.not_mem_nil, or_false] at hv
    rcases hv with rfl | rfl | rfl
    · exact hx
    · exact hy
    · exact hz
section
variable {w0 w : World} {b : Nat} {x : St} {n : Int}
theorem Lk.ck (h : Lk w0 w b x n) : ∃ bc, w.cell? ⟨b, 14, none⟩ = some (.pointer (some ⟨bc, 0, none⟩)) ∧ CkAt w bc x.c := by
  obtain ⟨L, S, F⟩ := h.v.lay
  exact ⟨L.bc, by rw [S.st.c]; rfl, S.ck⟩
theorem Lk.hold (h : Lk w0 w b x n) : ∃ bw bh vs vn, w.cell? ⟨b, 17, none⟩ = some (x.w.v bw) ∧ WyAt w bw bh x.w ∧ HoAt w bh x.h vs vn := by
  obtain ⟨L, S, F⟩ := h.v.lay
  exact ⟨L.bw, L.bh, L.vs, L.vn, by rw [S.st.c]; rfl, S.wy, S.ho⟩
theorem Lk.S (h : Lk w0 w b x n) : w.cell? ⟨b, 0, none⟩ = some (.int .u8 x.S) := h.v.S
end
end
end Go.Proofs.YtcllbmjmefeknaaGreatK
