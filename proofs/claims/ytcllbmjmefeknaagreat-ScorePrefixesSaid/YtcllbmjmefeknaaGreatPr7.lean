/- A pair beside a law's own blocks; two sides that are alike. -/
import Derived.Test.YtcllbmjmefeknaaGreatPr3
import Derived.Test.YtcllbmjmefeknaaGreatPr4
import Derived.Test.YtcllbmjmefeknaaGreatEv0
namespace Go.Proofs.YtcllbmjmefeknaaGreatK
open Go Go.RowKit
set_option linter.unusedVariables false
set_option maxHeartbeats 40000000
set_option maxRecDepth 100000
section
variable {σ : Type} {R : Wr σ} {w0 w w' : World} {b : Nat} {x y : Pr} {s s1 : σ} {n n1 m : Nat} {B : List Nat}
theorem PrW.of {L : PrL} {A : List Nat} (hF : ∀ k ∈ prF b L ++ A, w0.heap.size ≤ k ∧ k ∉ B) (h0 : w0.heap.size ≤ w.heap.size) (hB : ∀ g ∈ B, g < w.heap.size) (T : PrB R n1 w w' b y s1 L A) : PrW R w0 w' b y s1 n1 B ∧ FarB w0 w w' B := by
  obtain ⟨L1, A1, P, W, D, e, G, O⟩ := T
  refine ⟨⟨L1, A1, P, W, D, fun k hk => ?_⟩, _, G, fun g hg hk => (hF g hk).2 hg, fun k hk => (hF k hk).1⟩
  rcases O k hk with h | h
  · exact hF k h
  · exact ⟨Nat.le_trans h0 h, fun hg => by have := hB k hg; omega⟩
theorem PrW.tick (h : PrW R w0 w b x s n B) (h0 : w0.heap.size ≤ w.heap.size) (hB : ∀ g ∈ B, g < w.heap.size) (hk : x.ok m) (hm : m ≤ 700000) (hn : n ≤ 100000000000000) (hp0 : R.pre x.wires.p0.tell x.wires.p0.x.told) (hp1 : R.pre x.wires.p1.tell x.wires.p1.x.told) :
    Calls Tryz.prog 21 #[.pointer (some ⟨b, 0, none⟩)] w fun e w' => e = .returned (.tuple #[]) ∧ x.tick.ok (m + 64) ∧ PrW R w0 w' b x.tick (x.seen R s) (n + 200000000) B ∧ FarB w0 w w' B := by
  obtain ⟨L, A, P, W, D, hF⟩ := h.ex
  exact (PrTick_raw R P W D hk hm hn hp0 hp1).mono fun e w' ⟨he, hk', T⟩ => ⟨he, hk', PrW.of hF h0 hB T⟩
theorem PrW.tell0 (h : PrW R w0 w b x s n B) (O : Wo R) (h0 : w0.heap.size ≤ w.heap.size) (hB : ∀ g ∈ B, g < w.heap.size) (hk : x.ok m) (hm : m ≤ 800000) (hn : n ≤ 100000000000000) (k : Int) (hkr : 0 ≤ k ∧ k ≤ 255) (hpre : O.pre k) :
    Calls Tryz.prog 23 #[.pointer (some ⟨b, 0, none⟩), .agg #[.int .u8 1, .int .i64 0, .int .i64 0, .slice none 0 0, .int .u8 k, .slice none 0 0]] w fun e w' => e = .returned (.int .i64 (x.p0.x.order k []).2) ∧ PrW R w0 w' b (x.ord0 k []) (O.tell 0 k [] (x.p0.x.order k []).2 R.ws.length s) (n + 100000000) B ∧ FarB w0 w w' B := by
  obtain ⟨L, A, P, W, D, hF⟩ := h.ex
  exact (DoTell0_c O P W D hk hm hn k hkr hpre (vp := .slice none 0 0) (o := []) ⟨.inl ⟨rfl, rfl⟩, by simp⟩ (by simp) 0 none 0 0).mono fun e w' ⟨he, T⟩ => ⟨he, PrW.of hF h0 hB T⟩
theorem PrW.tell1 (h : PrW R w0 w b x s n B) (O : Wo R) (h0 : w0.heap.size ≤ w.heap.size) (hB : ∀ g ∈ B, g < w.heap.size) (hk : x.ok m) (hm : m ≤ 800000) (hn : n ≤ 100000000000000) (k : Int) (hkr : 0 ≤ k ∧ k ≤ 255) (hpre : O.pre k) :
    Calls Tryz.prog 23 #[.pointer (some ⟨b, 0, none⟩), .agg #[.int .u8 1, .int .i64 1, .int .i64 0, .slice none 0 0, .int .u8 k, .slice none 0 0]] w fun e w' => e = .returned (.int .i64 (x.p1.x.order k []).2) ∧ PrW R w0 w' b (x.ord1 k []) (O.tell 1 k [] (x.p1.x.order k []).2 R.ws.length s) (n + 100000000) B ∧ FarB w0 w w' B := by
  obtain ⟨L, A, P, W, D, hF⟩ := h.ex
  exact (DoTell1_c O P W D hk hm hn k hkr hpre (vp := .slice none 0 0) (o := []) ⟨.inl ⟨rfl, rfl⟩, by simp⟩ (by simp) 0 none 0 0).mono fun e w' ⟨he, T⟩ => ⟨he, PrW.of hF h0 hB T⟩
theorem FarB.bel (h : FarB w0 w w' B) (h0 : Below w0.heap.size w0 w) : Below w0.heap.size w0 w' := by
  obtain ⟨F, G, _, hF⟩ := h
  exact h0.trans (G.to_below h0.size hF)
theorem PrW.below (h : PrW R w0 w b x s n B) (hb : Below w.heap.size w w') : PrW R w0 w' b x s n B := by
  obtain ⟨L, A, P, W, D, hF⟩ := h.ex
  exact ⟨L, A, P.below hb, R.far W (F := []) (.of_below hb _) (by simp [Off]) (by simp), D, hF⟩
theorem PrW.same {n2 : Nat} (h : PrW R w0 w b x s n B) (hn : n ≤ n2) : PrW R w0 w b x s n2 B := by
  obtain ⟨L, A, P, W, D, hF⟩ := h.ex
  exact ⟨L, A, P, R.le W hn, D, hF⟩
end
/-! ### Two sides that are alike, nothing between them -/
def Pr.run : Nat → Pr → Pr
  | 0, x => x
  | k + 1, x => (Pr.run k x).tick
theorem Pr.ok_first {x : Pr} {m : Nat} : ∀ k, (∀ j, j < k → (Pr.run j x).ok (m + 64 * j) → (Pr.run (j + 1) x).ok (m + 64 * (j + 1))) → x.ok m → (Pr.run k x).ok (m + 64 * k)
  | 0, _, h => h
  | k + 1, hs, h => hs k (by omega) (Pr.ok_first k (fun j hj => hs j (by omega)) h)
abbrev bare : Wi := ⟨[], 0, [], 0, 0⟩
def Pr.sym (y : Lp) (t : Int) : Pr := ⟨y.p, y.p, bare, bare, y.n, y.n, t⟩
theorem passes0 : ∀ l : List Bool, bare.passes l = (bare, l)
  | [] => rfl
  | b :: l => by
    have e : bare.pass b = (bare, b) := by simp [Wi.pass, Wi.turn, Wi.burn, Wi.move, bare]
    rw [Wi.passes, e]
    dsimp only
    rw [passes0 l]
theorem sym_tick (y : Lp) (t : Int) : (Pr.sym y t).tick = Pr.sym y.tick (t + 1) := by
  simp only [Pr.tick, Pr.wires, Pr.posts, Pr.sym, passes0]
  rfl
theorem sym_run (y : Lp) (t : Int) : ∀ k : Nat, Pr.run k (Pr.sym y t) = Pr.sym (Lp.run k y) (t + k)
  | 0 => by simp [Pr.run, Lp.run]
  | k + 1 => by
    rw [Pr.run, sym_run y t k, sym_tick, Lp.run_succ]
    congr 1
    push_cast
    omega
theorem begin_sym (c : Bool) : ((Pr.new (usualP c) 0).ord0 1 []).ord1 1 [] = Pr.sym (Lp.begin c) 0 := rfl
theorem newPr_ok (c : Bool) {d : Nat} (hd : d ≤ 65536) : (Pr.new (usualP c) d).ok 0 := Pr.ok_new (newU_ok c) hd
/-- A pair without watchers, new. -/
theorem PrNewU_c (cyc : Bool) (d : Nat) (hd : d ≤ 65536) (w : World) : Calls Tryz.prog 16 #[(usualP cyc).v, .int .i64 (d : Int)] w fun e w' => ∃ b, e = .returned (.tuple #[.pointer (some ⟨b, 0, none⟩), .int .i64 0]) ∧ PrW Wr.none w w' b (Pr.new (usualP cyc) d) () 0 [] ∧ Below w.heap.size w w' :=
  (PrNew_c (usualP cyc) d hd w (fun w => Check_usual cyc w)).mono fun e w' ⟨b, he, L, P, hB, hL⟩ => ⟨b, he, ⟨L, [], P, rfl, (fun _ _ h => absurd h (by simp)), fun k hk => ⟨hL k (by simpa using hk), by simp⟩⟩, hB⟩
end Go.Proofs.YtcllbmjmefeknaaGreatK
