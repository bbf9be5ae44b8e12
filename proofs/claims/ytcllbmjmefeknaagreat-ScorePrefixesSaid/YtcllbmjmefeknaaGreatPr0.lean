/- A pair: as plain data, in memory; what watches it. What watches a pair; a pair and what watches it; the walk of Pair.Tick. The walk of Pair.Tick. -/
import Derived.Test.YtcllbmjmefeknaaGreatWi0
import Derived.Test.YtcllbmjmefeknaaGreatPb0
import Derived.Deep.RegionHeld
namespace Go.Proofs.YtcllbmjmefeknaaGreatK
/-! ### A pair: as plain data, in memory; what watches it. -/
section
open Go Go.RowKit
set_option linter.unusedVariables false
set_option maxHeartbeats 4000000
set_option maxRecDepth 100000
/-! ### As plain data -/
structure Pr where
  p0 : Po
  p1 : Po
  w0 : Wi
  w1 : Wi
  n0 : List Bool
  n1 : List Bool
  time : Int
def Po.tell (p : Po) : Po := { p with x := { p.x with told := [] } }
def Pr.posts (x : Pr) : Pr := { x with p0 := (x.p0.tick x.n0).1, p1 := (x.p1.tick x.n1).1, time := x.time + 1 }
def Pr.wires (x : Pr) : Pr := { x.posts with w0 := (x.w0.passes (x.p0.tick x.n0).2).1, n1 := (x.w0.passes (x.p0.tick x.n0).2).2, w1 := (x.w1.passes (x.p1.tick x.n1).2).1, n0 := (x.w1.passes (x.p1.tick x.n1).2).2 }
def Pr.tick (x : Pr) : Pr := { x.wires with p0 := x.wires.p0.tell, p1 := x.wires.p1.tell }
def Pr.new (s : Su) (d : Nat) : Pr := ⟨Po.new s, Po.new s, Wi.new d, Wi.new d, List.replicate 8 false, List.replicate 8 false, 0⟩
/-! ### In memory -/
structure PrL where
  b0 : Nat
  b1 : Nat
  c0 : Nat
  c1 : Nat
  L0 : PoL
  L1 : PoL
  l0 : Value
  m0 : Value
  l1 : Value
  m1 : Value
  vw : Value
abbrev Pr.cells (x : Pr) (L : PrL) : Array Value := ([Value.pointer (some ⟨L.b0, 0, none⟩), .pointer (some ⟨L.b1, 0, none⟩), .pointer (some ⟨L.c0, 0, none⟩), .pointer (some ⟨L.c1, 0, none⟩)] ++ (x.n0.map Value.bool ++ (x.n1.map Value.bool ++ [.int .i64 x.time, L.vw]))).toArray
abbrev prF (b : Nat) (L : PrL) : List Nat := [b] ++ (poF L.b0 L.L0 ++ (poF L.b1 L.L1 ++ (wiF L.c0 L.l0 L.m0 ++ (wiF L.c1 L.l1 L.m1 ++ own L.vw))))
abbrev prT : List TypeId := [128] ++ (postT ++ (postT ++ (wireT ++ (wireT ++ [142]))))
def Dis (A B : List Nat) : Prop := ∀ k ∈ A, k ∉ B
theorem Dis.symm {A B : List Nat} (h : Dis A B) : Dis B A := fun k hk hk2 => h k hk2 hk
theorem Dis.grow {A A' B : List Nat} {n : Nat} (d : Dis A B) (O : ∀ k ∈ A', k ∈ A ∨ n ≤ k) (lt : ∀ k ∈ B, k < n) : Dis A' B := fun k hk hk2 => by
  rcases O k hk with h | h
  · exact d k h hk2
  · have := lt k hk2; omega
theorem Dis.wgrow {A A' B : List Nat} {n : Nat} (d : Dis B A) (O : ∀ k ∈ A', k ∈ A ∨ n ≤ k) (lt : ∀ k ∈ B, k < n) : Dis B A' := (Dis.grow d.symm O lt).symm
structure PrAt (w : World) (b : Nat) (x : Pr) (L : PrL) (ws : List (TypeId × Nat)) : Prop where
  blk : Blk w b (x.cells L) 128
  n0 : x.n0.length = 8
  n1 : x.n1.length = 8
  p0 : PoAt w L.b0 x.p0 L.L0
  p1 : PoAt w L.b1 x.p1 L.L1
  w0 : WiAt w L.c0 x.w0 L.l0 L.m0
  w1 : WiAt w L.c1 x.w1 L.l1 L.m1
  wt : Row w 142 1 L.vw ws.length (ws.map fun t => .iface t.1 (.pointer (some ⟨t.2, 0, none⟩)))
  dpp : Dis (poF L.b0 L.L0) (poF L.b1 L.L1)
  d00 : Dis (poF L.b0 L.L0) (wiF L.c0 L.l0 L.m0)
  d01 : Dis (poF L.b0 L.L0) (wiF L.c1 L.l1 L.m1)
  d10 : Dis (poF L.b1 L.L1) (wiF L.c0 L.l0 L.m0)
  d11 : Dis (poF L.b1 L.L1) (wiF L.c1 L.l1 L.m1)
  dww : Dis (wiF L.c0 L.l0 L.m0) (wiF L.c1 L.l1 L.m1)
/-- What stays the same: where its parts lie. -/
structure PrL.same (L M : PrL) : Prop where
  b0 : M.b0 = L.b0
  b1 : M.b1 = L.b1
  c0 : M.c0 = L.c0
  c1 : M.c1 = L.c1
  l0 : M.l0 = L.l0
  l1 : M.l1 = L.l1
  vw : M.vw = L.vw
  x0 : M.L0.bx = L.L0.bx
  x1 : M.L1.bx = L.L1.bx
theorem PrL.same.refl (L : PrL) : L.same L := ⟨rfl, rfl, rfl, rfl, rfl, rfl, rfl, rfl, rfl⟩
theorem PrL.same.trans {L M N : PrL} (h : L.same M) (k : M.same N) : L.same N := ⟨k.b0.trans h.b0, k.b1.trans h.b1, k.c0.trans h.c0, k.c1.trans h.c1, k.l0.trans h.l0, k.l1.trans h.l1, k.vw.trans h.vw, k.x0.trans h.x0, k.x1.trans h.x1⟩
def PrTo (w w' : World) (b : Nat) (x : Pr) (L : PrL) (ws : List (TypeId × Nat)) : Prop := ∃ L', PrAt w' b x L' ws ∧ L.same L' ∧ Chg (prF b L) w w' ∧ ∀ k ∈ prF b L', k ∈ prF b L ∨ w.heap.size ≤ k
theorem PrTo.then {w w1 w2 : World} {b : Nat} {x y : Pr} {L : PrL} {ws : List (TypeId × Nat)} (h : PrTo w w1 b x L ws) (k : ∀ L1, PrAt w1 b x L1 ws → L.same L1 → PrTo w1 w2 b y L1 ws) : PrTo w w2 b y L ws := by
  obtain ⟨L1, h1, e1, G1, O1⟩ := h
  obtain ⟨L2, h2, e2, G2, O2⟩ := k L1 h1 e1
  refine ⟨L2, h2, e1.trans e2, G1.trans G2 O1, fun k hk => ?_⟩
  rcases O2 k hk with h | h
  · exact O1 k h
  · exact .inr (Nat.le_trans G1.size h)
section
variable {w w1 : World} {b : Nat} {x : Pr} {L : PrL} {ws : List (TypeId × Nat)}
theorem PrAt.typed (h : PrAt w b x L ws) : Typed w (prF b L) prT := (Typed.one h.blk).app (h.p0.typed.app (h.p1.typed.app (h.w0.typed.app (h.w1.typed.app (Typed.row h.wt)))))
theorem PrAt.lt (h : PrAt w b x L ws) : ∀ k ∈ prF b L, k < w.heap.size := fun k hk => by
  obtain ⟨cs, t, h1, _⟩ := h.typed k hk
  exact h1.lt
theorem PrAt.far {F : List Nat} (h : PrAt w b x L ws) (h0 : Off w 5 F) (hn : ∀ k ∈ prF b L, k ∉ F) (hc : Chg F w w1) : PrAt w1 b x L ws :=
  ⟨h.blk.chg hc (hn _ (mem6.2 (.inl rfl))), h.n0, h.n1, h.p0.far h0 (fun k hk => hn k (mem6.2 (.inr (.inl hk)))) hc, h.p1.far h0 (fun k hk => hn k (mem6.2 (.inr (.inr (.inl hk))))) hc,
    h.w0.far (fun k hk => hn k (mem6.2 (.inr (.inr (.inr (.inl hk)))))) hc, h.w1.far (fun k hk => hn k (mem6.2 (.inr (.inr (.inr (.inr (.inl hk))))))) hc, Row.chg h.wt hc (fun k hk => hn k (mem6.2 (.inr (.inr (.inr (.inr (.inr hk))))))),
    h.dpp, h.d00, h.d01, h.d10, h.d11, h.dww⟩
theorem PrAt.below (h : PrAt w b x L ws) (hb : Below w.heap.size w w1) : PrAt w1 b x L ws := h.far (F := []) (by simp [Off]) (by simp) (.of_below hb [])
theorem PrTo.same (h : PrAt w b x L ws) : PrTo w w b x L ws := ⟨L, h, .refl L, Chg.refl _ _, fun _ hk => .inl hk⟩
theorem PrTo.below (h : PrAt w b x L ws) (hb : Below w.heap.size w w1) : PrTo w w1 b x L ws := ⟨L, h.below hb, .refl L, Chg.of_below hb _, fun _ hk => .inl hk⟩
theorem Row.off1 {e : TypeId} {sz n : Nat} {v : Value} {xs : List Value} {F : List Nat} {us : List TypeId} (h : Row w e sz v n xs) (T : Typed w F us) (he : e ∉ us) (hc : Chg F w w1) : Row w1 e sz v n xs := Row.keep h (T.off he) hc
/-- Its first terminal is another one. -/
theorem PrTo.byP0 (h : PrAt w b x L ws) {q : Po} (k : PoTo w w1 L.b0 q L.L0) : PrTo w w1 b { x with p0 := q } L ws := by
  obtain ⟨M, P, ex, G, O⟩ := k
  have T := h.p0.typed
  refine ⟨{ L with L0 := M }, ⟨(h.blk.keep (T.off (by decide)) G), h.n0, h.n1, P, h.p1.far (T.off (by decide)) h.dpp.symm G, h.w0.far h.d00.symm G, h.w1.far h.d01.symm G, Row.off1 h.wt T (by decide) G,
    h.dpp.grow O h.p1.lt, h.d00.grow O h.w0.lt, h.d01.grow O h.w1.lt, h.d10, h.d11, h.dww⟩, ⟨rfl, rfl, rfl, rfl, rfl, rfl, rfl, ex, rfl⟩, G.more (fun k hk => mem6.2 (.inr (.inl hk))), fun k hk => ?_⟩
  rw [mem6] at hk ⊢
  rcases hk with hk | hk | hk
  · exact .inl (.inl hk)
  · rcases O k hk with h9 | h9
    · exact .inl (.inr (.inl h9))
    · exact .inr h9
  · exact .inl (.inr (.inr hk))
theorem PrTo.byP1 (h : PrAt w b x L ws) {q : Po} (k : PoTo w w1 L.b1 q L.L1) : PrTo w w1 b { x with p1 := q } L ws := by
  obtain ⟨M, P, ex, G, O⟩ := k
  have T := h.p1.typed
  refine ⟨{ L with L1 := M }, ⟨(h.blk.keep (T.off (by decide)) G), h.n0, h.n1, h.p0.far (T.off (by decide)) h.dpp G, P, h.w0.far h.d10.symm G, h.w1.far h.d11.symm G, Row.off1 h.wt T (by decide) G,
    h.dpp.wgrow O h.p0.lt, h.d00, h.d01, h.d10.grow O h.w0.lt, h.d11.grow O h.w1.lt, h.dww⟩, ⟨rfl, rfl, rfl, rfl, rfl, rfl, rfl, rfl, ex⟩, G.more (fun k hk => mem6.2 (.inr (.inr (.inl hk)))), fun k hk => ?_⟩
  rw [mem6] at hk ⊢
  rcases hk with hk | hk | hk | hk
  · exact .inl (.inl hk)
  · exact .inl (.inr (.inl hk))
  · rcases O k hk with h9 | h9
    · exact .inl (.inr (.inr (.inl h9)))
    · exact .inr h9
  · exact .inl (.inr (.inr (.inr hk)))
theorem wiO {c : Nat} {vl vm vm' : Value} {n : Nat} (O : ∀ k ∈ own vm', k ∈ own vm ∨ n ≤ k) : ∀ k ∈ wiF c vl vm', k ∈ wiF c vl vm ∨ n ≤ k := fun k hk => by
  rw [mem3] at hk ⊢
  rcases hk with hk | hk | hk
  · exact .inl (.inl hk)
  · exact .inl (.inr (.inl hk))
  · exact (O k hk).elim (fun h => .inl (.inr (.inr h))) .inr
theorem PrTo.byW0 (h : PrAt w b x L ws) {y : Wi} (k : WiTo w w1 L.c0 y L.l0 L.m0) : PrTo w w1 b { x with w0 := y } L ws := by
  obtain ⟨M, P, G, O'⟩ := k
  have O := wiO (c := L.c0) (vl := L.l0) O'
  have T := h.w0.typed
  refine ⟨{ L with m0 := M }, ⟨(h.blk.keep (T.off (by decide)) G), h.n0, h.n1, h.p0.far (T.off (by decide)) h.d00 G, h.p1.far (T.off (by decide)) h.d10 G, P, h.w1.far h.dww.symm G, Row.off1 h.wt T (by decide) G,
    h.dpp, h.d00.wgrow O h.p0.lt, h.d01, h.d10.wgrow O h.p1.lt, h.d11, h.dww.grow O h.w1.lt⟩, ⟨rfl, rfl, rfl, rfl, rfl, rfl, rfl, rfl, rfl⟩, G.more (fun k hk => mem6.2 (.inr (.inr (.inr (.inl hk))))), fun k hk => ?_⟩
  rw [mem6] at hk ⊢
  rcases hk with hk | hk | hk | hk | hk
  · exact .inl (.inl hk)
  · exact .inl (.inr (.inl hk))
  · exact .inl (.inr (.inr (.inl hk)))
  · rcases O k hk with h9 | h9
    · exact .inl (.inr (.inr (.inr (.inl h9))))
    · exact .inr h9
  · exact .inl (.inr (.inr (.inr (.inr hk))))
theorem PrTo.byW1 (h : PrAt w b x L ws) {y : Wi} (k : WiTo w w1 L.c1 y L.l1 L.m1) : PrTo w w1 b { x with w1 := y } L ws := by
  obtain ⟨M, P, G, O'⟩ := k
  have O := wiO (c := L.c1) (vl := L.l1) O'
  have T := h.w1.typed
  refine ⟨{ L with m1 := M }, ⟨(h.blk.keep (T.off (by decide)) G), h.n0, h.n1, h.p0.far (T.off (by decide)) h.d01 G, h.p1.far (T.off (by decide)) h.d11 G, h.w0.far h.dww G, P, Row.off1 h.wt T (by decide) G,
    h.dpp, h.d00, h.d01.wgrow O h.p0.lt, h.d10, h.d11.wgrow O h.p1.lt, h.dww.wgrow O h.w0.lt⟩, ⟨rfl, rfl, rfl, rfl, rfl, rfl, rfl, rfl, rfl⟩, G.more (fun k hk => mem6.2 (.inr (.inr (.inr (.inr (.inl hk)))))), fun k hk => ?_⟩
  rw [mem6] at hk ⊢
  rcases hk with hk | hk | hk | hk | hk | hk
  · exact .inl (.inl hk)
  · exact .inl (.inr (.inl hk))
  · exact .inl (.inr (.inr (.inl hk)))
  · exact .inl (.inr (.inr (.inr (.inl hk))))
  · rcases O k hk with h9 | h9
    · exact .inl (.inr (.inr (.inr (.inr (.inl h9)))))
    · exact .inr h9
  · exact .inl (.inr (.inr (.inr (.inr (.inr hk)))))
/-- Its own cells are others. -/
theorem PrTo.byC (h : PrAt w b x L ws) {n0 n1 : List Bool} {time : Int} (h0 : n0.length = 8) (h1 : n1.length = 8) (B : Blk w1 b (Pr.cells { x with n0 := n0, n1 := n1, time := time } L) 128) (G : Chg [b] w w1) : PrTo w w1 b { x with n0 := n0, n1 := n1, time := time } L ws := by
  have T := Typed.one h.blk
  have D : ∀ {F : List Nat} {us : List TypeId}, Typed w F us → 128 ∉ us → ∀ k ∈ F, k ∉ [b] := fun TF hu k hk hb => by
    obtain rfl : k = b := by simpa using hb
    exact TF.off hu |>.notin h.blk hk
  exact ⟨L, ⟨B, h0, h1, h.p0.far (T.off (by decide)) (D h.p0.typed (by decide)) G, h.p1.far (T.off (by decide)) (D h.p1.typed (by decide)) G, h.w0.far (D h.w0.typed (by decide)) G, h.w1.far (D h.w1.typed (by decide)) G, Row.off1 h.wt T (by decide) G,
    h.dpp, h.d00, h.d01, h.d10, h.d11, h.dww⟩, .refl L, G.more (fun k hk => mem6.2 (.inl (by simpa using hk))), fun k hk => .inl hk⟩
end
end
/-! ### What watches a pair; a pair and what watches it; the walk of Pair.Tick. -/
section
open Go Go.RowKit
set_option linter.unusedVariables false
set_option maxHeartbeats 40000000
set_option maxRecDepth 100000
/-- What watches a pair: values of an interface, each a pointer; all of them are one state. -/
structure Wr (σ : Type) where
  ws : List (TypeId × Nat)
  fT : Nat → FuncId
  At : Nat → World → σ → List Nat → Prop
  tk : Nat → Nat → Po → List To → σ → σ
  pre : Po → List To → Prop
  lt : ∀ {n w s A}, At n w s A → ∀ k ∈ A, k < w.heap.size
  off : ∀ {n w s A}, At n w s A → Off w 5 A
  le : ∀ {n m w s A}, At n w s A → n ≤ m → At m w s A
  far : ∀ {n w w1 s A F}, At n w s A → Chg F w w1 → Off w 5 F → (∀ k ∈ A, k ∉ F) → At n w1 s A
  len : ws.length ≤ 10
  nilT : ∀ {j : Nat} {T : TypeId} {g : Nat}, ws[j]? = some (T, g) → ∀ w, (nilAhead 408 T (.pointer (some ⟨g, 0, none⟩)) "Tick").run Tryz.prog w = .ok (some false) w
  metT : ∀ {j : Nat} {T : TypeId} {g : Nat}, ws[j]? = some (T, g) → ∀ w, (method 408 T (.pointer (some ⟨g, 0, none⟩)) "Tick").run Tryz.prog w = .ok (fT j, .pointer (some ⟨g, 0, none⟩)) w
  entT : ∀ {j : Nat} {T : TypeId} {g : Nat}, ws[j]? = some (T, g) → ∀ args w, (callFunc (fT j) args).run Tryz.prog w = .ok (.enter (fT j) args) w
  tick : ∀ {j : Nat} {T : TypeId} {g : Nat}, ws[j]? = some (T, g) → ∀ {n : Nat} {w : World} {s : σ} {A : List Nat} {b : Nat} {q : Po} {L : PoL} {v : Value} {told : List To} {m : Nat} (i : Nat), At n w s A → n ≤ 1000000000000000 → PoAt w b q L → q.ok m → m ≤ 800000 → Dis A (poF b L) → Tolds w v told → (∀ k ∈ A, k ∉ own v) → told.length ≤ 1000000 → i ≤ 1 → pre q told →
    Calls Tryz.prog (fT j) #[.pointer (some ⟨g, 0, none⟩), .int .i64 (i : Int), .pointer (some ⟨b, 0, none⟩), v] w fun e w' => e = .returned (.tuple #[]) ∧ ∃ A', At (n + 10000000) w' (tk j i q told s) A' ∧ Chg A w w' ∧ ∀ k ∈ A', k ∈ A ∨ w.heap.size ≤ k
/-- All of them see a side, the first j of them. -/
def Wr.see {σ : Type} (R : Wr σ) (i : Nat) (q : Po) (told : List To) : Nat → σ → σ
  | 0, s => s
  | j + 1, s => R.tk j i q told (R.see i q told j s)
def Pr.seen {σ : Type} (R : Wr σ) (x : Pr) (s : σ) : σ := R.see 1 x.wires.p1.tell x.wires.p1.x.told R.ws.length (R.see 0 x.wires.p0.tell x.wires.p0.x.told R.ws.length s)
/-- Nothing watches. -/
def Wr.none : Wr Unit where
  ws := []
  fT := fun _ => 0
  At := fun _ _ _ A => A = []
  tk := fun _ _ _ _ s => s
  pre := fun _ _ => True
  lt := fun h k hk => by subst h; cases hk
  off := fun h k hk => by subst h; cases hk
  le := fun h _ => h
  far := fun h _ _ _ => h
  len := by decide
  nilT := fun h => by cases h
  metT := fun h => by cases h
  entT := fun h => by cases h
  tick := fun h => by cases h
structure Pr.ok (x : Pr) (n : Nat) : Prop where
  p0 : x.p0.ok n
  p1 : x.p1.ok n
  w0 : x.w0.ok n
  w1 : x.w1.ok n
  n0 : x.n0.length = 8
  n1 : x.n1.length = 8
  time : 0 ≤ x.time ∧ x.time ≤ n
theorem Pr.ok.le {x : Pr} {n m : Nat} (h : x.ok n) (hm : n ≤ m) : x.ok m := ⟨h.p0.le hm, h.p1.le hm, h.w0.le hm, h.w1.le hm, h.n0, h.n1, by have := h.time; omega⟩
theorem Pr.ok_new {s : Su} {d : Nat} (h : (Po.new s).ok 0) (hd : d ≤ 65536) : (Pr.new s d).ok 0 := ⟨h, h, Wi.ok_new hd, Wi.ok_new hd, by simp [Pr.new], by simp [Pr.new], by simp [Pr.new]⟩
theorem Po.ok_tell {p : Po} {n : Nat} (h : p.ok n) : p.tell.ok n := ⟨⟨h.x.h, h.x.w, h.x.a, h.x.leak, h.x.c, h.x.S⟩, ⟨by simp only [Po.tell, List.length_nil]; have h1 := h.few.2.1; have h2 := h.few.2.2; omega, h.few.2.1, h.few.2.2⟩, h.e, h.gone, h.came, h.out, h.sent, h.got⟩
/-- A pair and what watches it, beside blocks of the law's own. -/
structure PrW {σ : Type} (R : Wr σ) (w0 w : World) (b : Nat) (x : Pr) (s : σ) (n : Nat) (B : List Nat) : Prop where
  ex : ∃ L A, PrAt w b x L R.ws ∧ R.At n w s A ∧ Dis (prF b L) A ∧ ∀ k ∈ prF b L ++ A, w0.heap.size ≤ k ∧ k ∉ B
/-- Nothing of what was there ahead is changed, nor of these blocks. -/
def FarB (w0 w w' : World) (B : List Nat) : Prop := ∃ F, Chg F w w' ∧ (∀ g ∈ B, g ∉ F) ∧ (∀ k ∈ F, w0.heap.size ≤ k)
def fillN (p n : List Bool) : List Bool := p ++ n.drop p.length
theorem fillN_nil (n : List Bool) : fillN [] n = n := rfl
theorem fillN_all {p n : List Bool} (h : p.length = n.length) : fillN p n = p := by simp [fillN, h]
theorem fillN_len {p n : List Bool} (h : p.length ≤ n.length) : (fillN p n).length = n.length := by simp [fillN]; omega
theorem fillN_set {p n : List Bool} {v : Bool} (h : p.length < n.length) : (fillN p n).set p.length v = fillN (p ++ [v]) n := by
  unfold fillN
  rw [List.set_append_right _ _ (Nat.le_refl _), Nat.sub_self, List.drop_eq_getElem_cons h, List.set_cons_zero]
  simp
theorem cells_n0 {x : Pr} {L : PrL} {p n : List Bool} {v : Bool} (h8 : n.length = 8) (h : p.length < 8) : (Pr.cells { x with n0 := fillN p n } L).setIfInBounds (4 + p.length) (.bool v) = Pr.cells { x with n0 := fillN (p ++ [v]) n } L := by
  unfold Pr.cells
  dsimp only
  rw [List.setIfInBounds_toArray]
  congr 1
  rw [List.set_append_right _ _ (by simp), show 4 + p.length - [Value.pointer (some ⟨L.b0, 0, none⟩), .pointer (some ⟨L.b1, 0, none⟩), .pointer (some ⟨L.c0, 0, none⟩), .pointer (some ⟨L.c1, 0, none⟩)].length = p.length by simp]
  rw [List.set_append_left _ _ (by simp [fillN_len (p := p) (n := n) (by omega), h8, h]), ← List.map_set, fillN_set (by omega)]
theorem cells_n1 {x : Pr} {L : PrL} {p n : List Bool} {v : Bool} (h0 : x.n0.length = 8) (h8 : n.length = 8) (h : p.length < 8) : (Pr.cells { x with n1 := fillN p n } L).setIfInBounds (12 + p.length) (.bool v) = Pr.cells { x with n1 := fillN (p ++ [v]) n } L := by
  unfold Pr.cells
  dsimp only
  rw [List.setIfInBounds_toArray]
  congr 1
  rw [List.set_append_right _ _ (by simp; omega), show 12 + p.length - [Value.pointer (some ⟨L.b0, 0, none⟩), .pointer (some ⟨L.b1, 0, none⟩), .pointer (some ⟨L.c0, 0, none⟩), .pointer (some ⟨L.c1, 0, none⟩)].length = 8 + p.length by simp; omega]
  rw [List.set_append_right _ _ (by simp [h0]), show 8 + p.length - (x.n0.map Value.bool).length = p.length by simp [h0]]
  rw [List.set_append_left _ _ (by simp [fillN_len (p := p) (n := n) (by omega), h8, h]), ← List.map_set, fillN_set (by omega)]
end
/-! ### The walk of Pair.Tick. -/
section
open Go Go.RowKit
set_option linter.unusedVariables false
set_option maxHeartbeats 40000000
set_option maxRecDepth 100000
abbrev outT : TypeId := 125
theorem PrTo.fresh {w w1 w2 : World} {b g : Nat} {y : Pr} {L : PrL} {ws : List (TypeId × Nat)} {cs : Array Value} (h : PrTo w w1 b y L ws) (K : Blk w1 g cs outT) (hg : w.heap.size ≤ g) (G : Chg [g] w1 w2) : PrTo w w2 b y L ws := by
  obtain ⟨L1, P1, e1, G1, O1⟩ := h
  have T := Typed.one K
  refine ⟨L1, P1.far (T.off (by decide)) (fun k hk hb => ?_) G, e1, G1.trans G (fun k hk => .inr (by simp at hk; omega)), O1⟩
  obtain rfl : k = g := by simpa using hb
  exact (P1.typed.off (t := outT) (by decide)).notin K hk
theorem PrTo.after {w w1 w2 : World} {b : Nat} {y : Pr} {L L1 : PrL} {ws : List (TypeId × Nat)} (e1 : L.same L1) (G1 : Chg (prF b L) w w1) (O1 : ∀ k ∈ prF b L1, k ∈ prF b L ∨ w.heap.size ≤ k) (h : PrTo w1 w2 b y L1 ws) : PrTo w w2 b y L ws := by
  obtain ⟨L2, h2, e2, G2, O2⟩ := h
  refine ⟨L2, h2, e1.trans e2, G1.trans G2 O1, fun k hk => ?_⟩
  rcases O2 k hk with h | h
  · exact O1 k h
  · exact .inr (Nat.le_trans G1.size h)
/-- A pair, and what watches it, behind some steps. -/
def PrB {σ : Type} (R : Wr σ) (n : Nat) (w w' : World) (b : Nat) (y : Pr) (s : σ) (L : PrL) (A : List Nat) : Prop :=
  ∃ L' A', PrAt w' b y L' R.ws ∧ R.At n w' s A' ∧ Dis (prF b L') A' ∧ L.same L' ∧ Chg (prF b L ++ A) w w' ∧ ∀ k ∈ prF b L' ++ A', k ∈ prF b L ++ A ∨ w.heap.size ≤ k
section
variable {σ : Type} {R : Wr σ} {n n1 : Nat} {w w1 w2 : World} {b : Nat} {y z : Pr} {s s1 : σ} {L : PrL} {A : List Nat}
theorem PrB.same (P : PrAt w b y L R.ws) (W : R.At n w s A) (D : Dis (prF b L) A) : PrB R n w w b y s L A := ⟨L, A, P, W, D, .refl L, Chg.refl _ _, fun k hk => .inl hk⟩
theorem PrB.byTo (P : PrAt w b y L R.ws) (W : R.At n w s A) (D : Dis (prF b L) A) (T : PrTo w w1 b z L R.ws) : PrB R n w w1 b z s L A := by
  obtain ⟨L1, P1, e1, G1, O1⟩ := T
  refine ⟨L1, A, P1, R.far W G1 (P.typed.off (by decide)) D.symm, D.grow O1 (R.lt W), e1, G1.more (fun k hk => List.mem_append_left _ hk), fun k hk => ?_⟩
  rcases List.mem_append.1 hk with h | h
  · rcases O1 k h with h9 | h9
    · exact .inl (List.mem_append_left _ h9)
    · exact .inr h9
  · exact .inl (List.mem_append_right _ h)
theorem PrB.byW (P : PrAt w b y L R.ws) (W : R.At n w s A) (D : Dis (prF b L) A) {A1 : List Nat} (W1 : R.At n1 w1 s1 A1) (G1 : Chg A w w1) (O1 : ∀ k ∈ A1, k ∈ A ∨ w.heap.size ≤ k) : PrB R n1 w w1 b y s1 L A := by
  refine ⟨L, A1, P.far (R.off W) D G1, W1, D.wgrow O1 P.lt, .refl L, G1.more (fun k hk => List.mem_append_right _ hk), fun k hk => ?_⟩
  rcases List.mem_append.1 hk with h | h
  · exact .inl (List.mem_append_left _ h)
  · rcases O1 k h with h9 | h9
    · exact .inl (List.mem_append_right _ h9)
    · exact .inr h9
theorem PrB.then (h : PrB R n w w1 b y s L A) (k : ∀ L1 A1, PrAt w1 b y L1 R.ws → R.At n w1 s A1 → Dis (prF b L1) A1 → L.same L1 → PrB R n1 w1 w2 b z s1 L1 A1) : PrB R n1 w w2 b z s1 L A := by
  obtain ⟨L1, A1, P1, W1, D1, e1, G1, O1⟩ := h
  obtain ⟨L2, A2, P2, W2, D2, e2, G2, O2⟩ := k L1 A1 P1 W1 D1 e1
  refine ⟨L2, A2, P2, W2, D2, e1.trans e2, G1.trans G2 O1, fun k hk => ?_⟩
  rcases O2 k hk with h | h
  · exact O1 k h
  · exact .inr (Nat.le_trans G1.size h)
theorem PrB.le (h : PrB R n w w1 b y s L A) (hn : n ≤ n1) : PrB R n1 w w1 b y s L A := by
  obtain ⟨L1, A1, P1, W1, D1, e1, G1, O1⟩ := h
  exact ⟨L1, A1, P1, R.le W1 hn, D1, e1, G1, O1⟩
end
def Pr.o0 (x : Pr) : List Bool := (x.p0.tick x.n0).2
def Pr.o1 (x : Pr) : List Bool := (x.p1.tick x.n1).2
theorem Pr.o0_len (x : Pr) : x.o0.length = 8 := Po.tick_len _ _
theorem Pr.o1_len (x : Pr) : x.o1.length = 8 := Po.tick_len _ _
def Pr.a0 (x : Pr) : Pr := { x with time := x.time + 1 }
def Pr.a1 (x : Pr) : Pr := { x.a0 with p0 := (x.p0.tick x.n0).1 }
def Pr.b1 (x : Pr) (z : Nat) : Pr := { x.posts with w0 := (x.w0.passes (x.o0.take z)).1, n1 := fillN (x.w0.passes (x.o0.take z)).2 x.n1 }
def Pr.b2 (x : Pr) (z : Nat) : Pr := { x.b1 8 with w1 := (x.w1.passes (x.o1.take z)).1, n0 := fillN (x.w1.passes (x.o1.take z)).2 x.n0 }
theorem Pr.b1_0 (x : Pr) : x.b1 0 = x.posts := by simp [Pr.b1, Wi.passes, fillN]; rfl
theorem Pr.b2_0 (x : Pr) : x.b2 0 = x.b1 8 := by simp [Pr.b2, Wi.passes, fillN]; rfl
theorem Pr.b2_8 {x : Pr} (h0 : x.n0.length = 8) (h1 : x.n1.length = 8) : x.b2 8 = x.wires := by
  have e0 : x.o0.take 8 = x.o0 := List.take_of_length_le (by rw [x.o0_len]; omega)
  have e1 : x.o1.take 8 = x.o1 := List.take_of_length_le (by rw [x.o1_len]; omega)
  unfold Pr.b2 Pr.b1
  rw [e0, e1, fillN_all (by rw [Wi.passes_len, x.o0_len, h1]), fillN_all (by rw [Wi.passes_len, x.o1_len, h0])]
  rfl
theorem take_snoc {l : List Bool} {z : Nat} {v : Bool} (h : l[z]? = some v) : l.take (z + 1) = l.take z ++ [v] := by rw [List.take_add_one, h]; rfl
theorem Wi.passes_snoc {x : Wi} {l : List Bool} {v : Bool} : x.passes (l ++ [v]) = (((x.passes l).1.pass v).1, (x.passes l).2 ++ [((x.passes l).1.pass v).2]) := by rw [Wi.passes_append]; rfl
theorem index8 {d0 d1 d2 d3 d4 d5 d6 d7 v : Bool} {z : Nat} (h : [d0, d1, d2, d3, d4, d5, d6, d7][z]? = some v) (w : World) : (Instr.index 124 (.agg #[.bool d0, .bool d1, .bool d2, .bool d3, .bool d4, .bool d5, .bool d6, .bool d7]) (.int .i64 z)).run Tryz.prog w = .ok (.bool v) w := by
  have hz : z < 8 := by have := (List.getElem?_eq_some_iff.1 h).1; simpa using this
  rcases (by omega : z = 0 ∨ z = 1 ∨ z = 2 ∨ z = 3 ∨ z = 4 ∨ z = 5 ∨ z = 6 ∨ z = 7) with rfl | rfl | rfl | rfl | rfl | rfl | rfl | rfl
  all_goals
    simp only [List.getElem?_cons_zero, List.getElem?_cons_succ, Option.some.injEq] at h
    subst h
    show (Instr.index _ _ _).run _ _ = _
    kernel_rfl
theorem indexP0 (u v : Value) (w : World) : (Instr.index 122 (.agg #[u, v]) (.int .i64 0)).run Tryz.prog w = .ok u w := by
  show (Instr.index _ _ _).run _ _ = _
  kernel_rfl
theorem indexP1 (u v : Value) (w : World) : (Instr.index 122 (.agg #[u, v]) (.int .i64 1)).run Tryz.prog w = .ok v w := by
  show (Instr.index _ _ _).run _ _ = _
  kernel_rfl
theorem indexW0 (u v : Value) (w : World) : (Instr.index 123 (.agg #[u, v]) (.int .i64 0)).run Tryz.prog w = .ok u w := by
  show (Instr.index _ _ _).run _ _ = _
  kernel_rfl
theorem indexW1 (u v : Value) (w : World) : (Instr.index 123 (.agg #[u, v]) (.int .i64 1)).run Tryz.prog w = .ok v w := by
  show (Instr.index _ _ _).run _ _ = _
  kernel_rfl
theorem store8 {w : World} {g o : Nat} {cs : Array Value} {t : TypeId} (h : Blk w g cs t) (v0 v1 v2 v3 v4 v5 v6 v7 : Value) :
    Blk ((((((((w.setCell ⟨g, o, none⟩ v0).setCell ⟨g, o + 1, none⟩ v1).setCell ⟨g, o + 2, none⟩ v2).setCell ⟨g, o + 3, none⟩ v3).setCell ⟨g, o + 4, none⟩ v4).setCell ⟨g, o + 5, none⟩ v5).setCell ⟨g, o + 6, none⟩ v6).setCell ⟨g, o + 7, none⟩ v7) g
      ((((((((cs.setIfInBounds o v0).setIfInBounds (o + 1) v1).setIfInBounds (o + 2) v2).setIfInBounds (o + 3) v3).setIfInBounds (o + 4) v4).setIfInBounds (o + 5) v5).setIfInBounds (o + 6) v6).setIfInBounds (o + 7) v7) t ∧
    Chg [g] w ((((((((w.setCell ⟨g, o, none⟩ v0).setCell ⟨g, o + 1, none⟩ v1).setCell ⟨g, o + 2, none⟩ v2).setCell ⟨g, o + 3, none⟩ v3).setCell ⟨g, o + 4, none⟩ v4).setCell ⟨g, o + 5, none⟩ v5).setCell ⟨g, o + 6, none⟩ v6).setCell ⟨g, o + 7, none⟩ v7) :=
  ⟨(((((((h.set _ _).set _ _).set _ _).set _ _).set _ _).set _ _).set _ _).set _ _, ((((((((Chg.refl [g] w).set (.inl (by simp)) _).set (.inl (by simp)) _).set (.inl (by simp)) _).set (.inl (by simp)) _).set (.inl (by simp)) _).set (.inl (by simp)) _).set (.inl (by simp)) _).set (.inl (by simp)) _⟩
/-- A terminal's tick, its bits one by one. -/
theorem Tick8_c {w : World} {b : Nat} {p : Po} {L : PoL} {m : Nat} (h : PoAt w b p L) (hk : p.ok m) (hm : m ≤ 700000) {l : List Bool} {c0 c1 c2 c3 c4 c5 c6 c7 : Bool} (hl : l = [c0, c1, c2, c3, c4, c5, c6, c7]) :
    Calls Tryz.prog 72 #[.pointer (some ⟨b, 0, none⟩), .agg #[.bool c0, .bool c1, .bool c2, .bool c3, .bool c4, .bool c5, .bool c6, .bool c7]] w fun e w' =>
      (∃ d0 d1 d2 d3 d4 d5 d6 d7, (p.tick l).2 = [d0, d1, d2, d3, d4, d5, d6, d7] ∧ e = .returned (.agg #[.bool d0, .bool d1, .bool d2, .bool d3, .bool d4, .bool d5, .bool d6, .bool d7])) ∧ PoTo w w' b (p.tick l).1 L ∧ (p.tick l).1.ok (m + 64) := by
  subst hl
  refine (PTick_c h hk hm [c0, c1, c2, c3, c4, c5, c6, c7] rfl).mono fun e w' ⟨he, T, ho⟩ => ?_
  obtain ⟨d0, d1, d2, d3, d4, d5, d6, d7, hd⟩ := eightB (Po.tick_len p [c0, c1, c2, c3, c4, c5, c6, c7])
  exact ⟨⟨d0, d1, d2, d3, d4, d5, d6, d7, hd, by rw [he, hd]; rfl⟩, T, Po.ok_tick hk _ rfl ho⟩
theorem cells_at0 {x : Pr} {L : PrL} {z : Nat} (h0 : x.n0.length = 8) (hz : z < 8) : ∃ u, (Pr.cells x L)[4 + z]? = some u := by
  refine ⟨_, Array.getElem?_eq_getElem ?_⟩
  simp [h0]; omega
theorem cells_at1 {x : Pr} {L : PrL} {z : Nat} (h0 : x.n0.length = 8) (h1 : x.n1.length = 8) (hz : z < 8) : ∃ u, (Pr.cells x L)[12 + z]? = some u := by
  refine ⟨_, Array.getElem?_eq_getElem ?_⟩
  simp [h0, h1]; omega
theorem cells_at21 {x : Pr} {L : PrL} (h0 : x.n0.length = 8) (h1 : x.n1.length = 8) : (Pr.cells x L)[21]? = some L.vw := by
  obtain ⟨a0, a1, a2, a3, a4, a5, a6, a7, ha⟩ := eightB h0
  obtain ⟨g0, g1, g2, g3, g4, g5, g6, g7, hg⟩ := eightB h1
  rw [Pr.cells, ha, hg]
  rfl
/-- A bit went over the first wire. -/
theorem PrTo.step1 {w wz w6 : World} {b : Nat} {x : Pr} {L L3 : PrL} {ws : List (TypeId × Nat)} {z : Nat} {v : Bool} (h0 : x.n0.length = 8) (h1 : x.n1.length = 8) (hz : z < 8) (hv : x.o0[z]? = some v) (AF : ∀ (w9 : World) (y : Pr), PrTo wz w9 b y L3 ws → PrTo w w9 b y L ws)
    (X : PrTo wz w6 b { x.b1 z with w0 := ((x.b1 z).w0.pass v).1 } L3 ws) : PrTo w (w6.setCell ⟨b, 12 + z, none⟩ (.bool ((x.b1 z).w0.pass v).2)) b (x.b1 (z + 1)) L ws := by
  refine AF _ _ (X.then (fun L6 P6 _ => ?_))
  have hl : (x.w0.passes (x.o0.take z)).2.length = z := by rw [Wi.passes_len, List.length_take, x.o0_len]; omega
  have e : x.b1 (z + 1) = { ({ x.b1 z with w0 := ((x.b1 z).w0.pass v).1 } : Pr) with n0 := x.n0, n1 := fillN ((x.w0.passes (x.o0.take z)).2 ++ [((x.b1 z).w0.pass v).2]) x.n1, time := x.time + 1 } := by
    simp only [Pr.b1, take_snoc hv, Wi.passes_snoc, Pr.posts]
  rw [e]
  refine PrTo.byC P6 h0 (by rw [fillN_len (by simp [hl, h1]; omega), h1]) ((P6.blk.set (12 + z) _).as ?_) ((Chg.refl [b] w6).set (b := b) (i := 12 + z) (.inl (by simp)) _)
  have := cells_n1 (x := { x.b1 z with w0 := ((x.b1 z).w0.pass v).1 }) (L := L6) (p := (x.w0.passes (x.o0.take z)).2) (n := x.n1) (v := ((x.b1 z).w0.pass v).2) h0 h1 (by omega)
  rw [hl] at this
  exact this
theorem PrTo.step2 {w wz w6 : World} {b : Nat} {x : Pr} {L L3 : PrL} {ws : List (TypeId × Nat)} {z : Nat} {v : Bool} (h0 : x.n0.length = 8) (h1 : x.n1.length = 8) (hz : z < 8) (hv : x.o1[z]? = some v) (AF : ∀ (w9 : World) (y : Pr), PrTo wz w9 b y L3 ws → PrTo w w9 b y L ws)
    (X : PrTo wz w6 b { x.b2 z with w1 := ((x.b2 z).w1.pass v).1 } L3 ws) : PrTo w (w6.setCell ⟨b, 4 + z, none⟩ (.bool ((x.b2 z).w1.pass v).2)) b (x.b2 (z + 1)) L ws := by
  refine AF _ _ (X.then (fun L6 P6 _ => ?_))
  have hl : (x.w1.passes (x.o1.take z)).2.length = z := by rw [Wi.passes_len, List.length_take, x.o1_len]; omega
  have e : x.b2 (z + 1) = { ({ x.b2 z with w1 := ((x.b2 z).w1.pass v).1 } : Pr) with n0 := fillN ((x.w1.passes (x.o1.take z)).2 ++ [((x.b2 z).w1.pass v).2]) x.n0, n1 := (x.b2 z).n1, time := x.time + 1 } := by
    simp only [Pr.b2, take_snoc hv, Wi.passes_snoc, Pr.b1, Pr.posts]
  rw [e]
  refine PrTo.byC P6 (by rw [fillN_len (by simp [hl, h0]; omega), h0]) P6.n1 ((P6.blk.set (4 + z) _).as ?_) ((Chg.refl [b] w6).set (b := b) (i := 4 + z) (.inl (by simp)) _)
  have := cells_n0 (x := { x.b2 z with w1 := ((x.b2 z).w1.pass v).1 }) (L := L6) (p := (x.w1.passes (x.o1.take z)).2) (n := x.n0) (v := ((x.b2 z).w1.pass v).2) h0 (by omega)
  rw [hl] at this
  exact this
theorem Pr.ok_tick {x : Pr} {m : Nat} (hk : x.ok m) (h0 : (x.p0.tick x.n0).1.ok (m + 64)) (h1 : (x.p1.tick x.n1).1.ok (m + 64)) : x.tick.ok (m + 64) :=
  ⟨Po.ok_tell h0, Po.ok_tell h1, (Wi.ok_passes _ hk.w0).le (by rw [Po.tick_len]; omega), (Wi.ok_passes _ hk.w1).le (by rw [Po.tick_len]; omega),
    (Wi.passes_len _ _).trans (Po.tick_len _ _), (Wi.passes_len _ _).trans (Po.tick_len _ _), by have := hk.time; simp only [Pr.tick, Pr.wires, Pr.posts]; omega⟩
theorem Row.at1 {w : World} {e : TypeId} {a : Option Addr} {n m c : Nat} {xs : List Value} (h : Row w e 1 (.slice a m c) n xs) (k : Nat) (u : Value) (hx : xs[k]? = some u) : ∃ bl off, a = some ⟨bl, off, none⟩ ∧ w.cell? ⟨bl, off + k, none⟩ = some u := by
  rcases h.2 with ⟨_, h0⟩ | ⟨bl, off, cap, cs, e', h1, h2, h3, h4, h5⟩
  · have := (List.getElem?_eq_some_iff.1 hx).1
    have := h.1
    omega
  · simp only [Value.slice.injEq] at e'
    exact ⟨bl, off, e'.1, by rw [h3.c]; exact h5 k _ hx⟩
theorem Tolds.far {w w1 : World} {v : Value} {l : List To} {F : List Nat} (h : Tolds w v l) (h0 : Off w 5 F) (h1 : ∀ k ∈ own v, k ∉ F) (hc : Chg F w w1) : Tolds w1 v l := by
  obtain ⟨ps, e, r, q⟩ := h
  exact ⟨ps, e, r.chg hc h1, fun p hp => (q p hp).stay h0 hc⟩
theorem own_vt {bx : Nat} {M : Lay} {k : Nat} (h : k ∈ own M.vt) : k ∈ stF bx M := by
  simp only [stF, List.mem_append]
  exact .inr (.inr (.inr (.inr (.inr h))))
/-- A pair whose watchers have seen some of a side. -/
def Seen {σ : Type} (R : Wr σ) (n : Nat) (w w' : World) (b : Nat) (y : Pr) (s : σ) (L : PrL) (A : List Nat) (vt : Value) (told : List To) : Prop :=
  ∃ L' A', PrAt w' b y L' R.ws ∧ R.At n w' s A' ∧ Dis (prF b L') A' ∧ (∀ k ∈ A', k ∉ own vt) ∧ Tolds w' vt told ∧ L.same L' ∧ Chg (prF b L ++ A) w w' ∧ ∀ k ∈ prF b L' ++ A', k ∈ prF b L ++ A ∨ w.heap.size ≤ k
section
variable {σ : Type} {R : Wr σ} {n : Nat} {w w1 w2 : World} {b : Nat} {y z : Pr} {s : σ} {L L1 : PrL} {A A1 : List Nat} {vt : Value} {told : List To}
theorem Seen.done (h : Seen R n w w1 b y s L A vt told) : PrB R n w w1 b y s L A := by
  obtain ⟨L', A', P, W, D, _, _, e, G, O⟩ := h
  exact ⟨L', A', P, W, D, e, G, O⟩
theorem Seen.start0 (P : PrAt w1 b y L1 R.ws) (W : R.At n w1 s A1) (D : Dis (prF b L1) A1) (e : L.same L1) (G : Chg (prF b L ++ A) w w1) (O : ∀ k ∈ prF b L1 ++ A1, k ∈ prF b L ++ A ∨ w.heap.size ≤ k) (T : Tolds w2 L1.L0.L.vt told) (X : PoTo w1 w2 L1.b0 y.p0.tell L1.L0) : Seen R n w w2 b { y with p0 := y.p0.tell } s L A L1.L0.L.vt told := by
  obtain ⟨L2, P2, e2, G2, O2⟩ := PrTo.byP0 P X
  refine ⟨L2, A1, P2, R.far W G2 (P.typed.off (by decide)) D.symm, D.grow O2 (R.lt W), fun k hk hv => D k (mem6.2 (.inr (.inl (poF_x (own_vt hv))))) hk, T, e.trans e2, G.trans G2 (fun k hk => O k (List.mem_append_left _ hk)), fun k hk => ?_⟩
  rcases List.mem_append.1 hk with h | h
  · rcases O2 k h with h9 | h9
    · exact O k (List.mem_append_left _ h9)
    · exact .inr (Nat.le_trans G.size h9)
  · exact O k (List.mem_append_right _ h)
theorem Seen.start1 (P : PrAt w1 b y L1 R.ws) (W : R.At n w1 s A1) (D : Dis (prF b L1) A1) (e : L.same L1) (G : Chg (prF b L ++ A) w w1) (O : ∀ k ∈ prF b L1 ++ A1, k ∈ prF b L ++ A ∨ w.heap.size ≤ k) (T : Tolds w2 L1.L1.L.vt told) (X : PoTo w1 w2 L1.b1 y.p1.tell L1.L1) : Seen R n w w2 b { y with p1 := y.p1.tell } s L A L1.L1.L.vt told := by
  obtain ⟨L2, P2, e2, G2, O2⟩ := PrTo.byP1 P X
  refine ⟨L2, A1, P2, R.far W G2 (P.typed.off (by decide)) D.symm, D.grow O2 (R.lt W), fun k hk hv => D k (mem6.2 (.inr (.inr (.inl (poF_x (own_vt hv)))))) hk, T, e.trans e2, G.trans G2 (fun k hk => O k (List.mem_append_left _ hk)), fun k hk => ?_⟩
  rcases List.mem_append.1 hk with h | h
  · rcases O2 k h with h9 | h9
    · exact O k (List.mem_append_left _ h9)
    · exact .inr (Nat.le_trans G.size h9)
  · exact O k (List.mem_append_right _ h)
theorem Seen.step {n1 : Nat} {s1 : σ} {A2 : List Nat} (P : PrAt w1 b y L1 R.ws) (W : R.At n w1 s A1) (D : Dis (prF b L1) A1) (V : ∀ k ∈ A1, k ∉ own vt) (T : Tolds w1 vt told) (e : L.same L1) (G : Chg (prF b L ++ A) w w1) (O : ∀ k ∈ prF b L1 ++ A1, k ∈ prF b L ++ A ∨ w.heap.size ≤ k)
    (W2 : R.At n1 w2 s1 A2) (G2 : Chg A1 w1 w2) (O2 : ∀ k ∈ A2, k ∈ A1 ∨ w1.heap.size ≤ k) : Seen R n1 w w2 b y s1 L A vt told := by
  refine ⟨L1, A2, P.far (R.off W) D G2, W2, D.wgrow O2 P.lt, fun k hk hv => ?_, T.far (R.off W) (fun k hk hA => V k hA hk) G2, e, G.trans G2 (fun k hk => O k (List.mem_append_right _ hk)), fun k hk => ?_⟩
  · rcases O2 k hk with h9 | h9
    · exact V k h9 hv
    · have := T.lt k hv; omega
  · rcases List.mem_append.1 hk with h | h
    · exact O k (List.mem_append_left _ h)
    · rcases O2 k h with h9 | h9
      · exact O k (List.mem_append_right _ h9)
      · exact .inr (Nat.le_trans G.size h9)
end
end
end Go.Proofs.YtcllbmjmefeknaaGreatK
