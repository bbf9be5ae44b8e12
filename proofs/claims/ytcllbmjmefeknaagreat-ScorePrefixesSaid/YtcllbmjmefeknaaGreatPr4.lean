/- The walks of wire.New and pair.New, and of a pair's small functions. The walk of Pair.Do: an order. The walk of pair.New. -/
import Derived.Test.YtcllbmjmefeknaaGreatPr0
import Derived.Laws.MakeOwn
namespace Go.Proofs.YtcllbmjmefeknaaGreatK
/-! ### The walks of wire.New and pair.New, and of a pair's small functions. -/
section
open Go Go.RowKit
set_option linter.unusedVariables false
set_option maxHeartbeats 40000000
set_option maxRecDepth 100000
theorem made_bits (d : Nat) : madeCells (Value.bool false).cells (d * 1) = Array.replicate d (Value.bool false) := Array.ext (by simp [madeCells]) (fun j h1 h2 => by simp [madeCells, Value.cells, Nat.mod_one])
theorem make_bits (d : Nat) (hd : d ≤ 65536) (w : World) : (Instr.makeSlice 135 (.int .i64 (d : Int)) (.int .i64 (d : Int))).run Tryz.prog w = .ok (.slice (some ⟨w.heap.size, 0, none⟩) d d) (w.alloc (.cells (Array.replicate d (Value.bool false)) 4)) := by
  have h := run_make (P := Tryz.prog) w 135 4 Tryz.t4 (.bool false) Tryz.underlying135 rfl rfl .i64 .i64 (d : Int) (d : Int) (by omega) (by omega) (by show (1 : Int) * d ≤ _; omega) (by omega)
  rw [Int.toNat_natCast, show Tryz.t4.size = 1 from rfl, made_bits] at h
  exact h
theorem WiNew_c (d : Nat) (hd : d ≤ 65536) (w : World) :
    Calls Tryz.prog 69 #[.int .i64 (d : Int)] w fun e w' => ∃ b, e = .returned (.tuple #[.pointer (some ⟨b, 0, none⟩), .int .i64 0]) ∧ ∃ vl, WiAt w' b (Wi.new d) vl nil0 ∧ Below w.heap.size w w' ∧ ∀ k ∈ wiF b vl nil0, w.heap.size ≤ k := by
  have hm := make_bits d hd
  have h0 : ¬ ((d : Int) < 0) := by omega
  have h1 : ¬ (65536 < (d : Int)) := by omega
  go_enter Tryz.func69, Tryz.ntmps69
  go_wp2
  go_ret2
  have B := bl_alloc (bl_alloc (bl_refl w) (.cells (Array.replicate d (Value.bool false)) 4)) (.cells #[.slice (some ⟨w.heap.size, 0, none⟩) d d, .int .i64 0, nil0, .int .i64 0, .int .i64 0] 137)
  refine ⟨w.heap.size + 1, rfl, .slice (some ⟨w.heap.size, 0, none⟩) d d, ⟨(Blk.newAt (by simp) _ _).as rfl, ?_, BitV.nil _, by simp [own, Value.ownBlock]⟩, B, by simp [own, Value.ownBlock]⟩
  · have K : Blk (w.alloc (.cells (Array.replicate d (Value.bool false)) 4)) w.heap.size (Array.replicate d (Value.bool false)) 4 := Blk.new _ _ _
    refine ⟨by simp [Wi.new], .inr ⟨w.heap.size, 0, d, _, by simp [Wi.new], by simp [Wi.new], by simp [maxLen]; omega, K.alloc _, by simp, fun j u hu => ?_⟩⟩
    simp only [Wi.new, List.map_replicate, List.getElem?_replicate] at hu
    rw [Nat.zero_add, Array.getElem?_replicate]
    exact hu
theorem WiNewE_c (d : Int) (hd : d < 0 ∨ 65536 < d) (w : World) :
    Calls Tryz.prog 69 #[.int .i64 d] w fun e w' => e = .returned (.tuple #[.pointer none, .int .i64 1]) ∧ w = w' := by
  by_cases h0 : d < 0
  · go_enter Tryz.func69, Tryz.ntmps69
    go_wp2
    go_ret2
    exact ⟨rfl, rfl⟩
  · have h1 : 65536 < d := hd.resolve_left h0
    go_enter Tryz.func69, Tryz.ntmps69
    go_wp2
    go_ret2
    exact ⟨rfl, rfl⟩
theorem WDelay_c {w : World} {b : Nat} {x : Wi} {vl vm : Value} (h : WiAt w b x vl vm) : Calls Tryz.prog 20 #[.pointer (some ⟨b, 0, none⟩)] w fun e w' => e = .returned (.int .i64 (x.l.length : Int)) ∧ w = w' := by
  obtain ⟨al, cl, rfl, hcl⟩ := h.l.shape
  have hc := h.blk.c
  go_enter Tryz.func20, Tryz.ntmps20
  go_wp2
  go_ret
  exact ⟨rfl, rfl⟩
theorem PrSide_c (n : Int) (w : World) : Calls Tryz.prog 71 #[.int .i64 n] w fun e w' => e = .returned (.bool (n == 0 || n == 1)) ∧ w = w' := by
  by_cases h0 : n = 0
  · subst h0
    go_enter Tryz.func71, Tryz.ntmps71
    go_wp2
    go_ret
    exact ⟨rfl, rfl⟩
  · by_cases h1 : n = 1
    · subst h1
      go_enter Tryz.func71, Tryz.ntmps71
      go_wp2
      go_ret
      exact ⟨rfl, rfl⟩
    · have h0' : (n == 0) = false := beq_eq_false_iff_ne.2 h0
      have h1' : (n == 1) = false := beq_eq_false_iff_ne.2 h1
      go_enter Tryz.func71, Tryz.ntmps71
      go_wp2
      go_ret
      exact ⟨by rw [h0', h1']; rfl, rfl⟩
section
variable {w : World} {b : Nat} {x : Pr} {L : PrL} {ws : List (TypeId × Nat)}
theorem PrTime_c (h : PrAt w b x L ws) : Calls Tryz.prog 24 #[.pointer (some ⟨b, 0, none⟩)] w fun e w' => e = .returned (.int .i64 x.time) ∧ w = w' := by
  obtain ⟨a0, a1, a2, a3, a4, a5, a6, a7, ha⟩ := eightB h.n0
  obtain ⟨g0, g1, g2, g3, g4, g5, g6, g7, hg⟩ := eightB h.n1
  have hc := h.blk.c 20
  rw [show (x.cells L)[20]? = some (.int .i64 x.time) from by rw [Pr.cells, ha, hg]; rfl] at hc
  go_enter Tryz.func24, Tryz.ntmps24
  go_wp2
  go_ret
  exact ⟨rfl, rfl⟩
theorem PrPost0_c (h : PrAt w b x L ws) : Calls Tryz.prog 18 #[.pointer (some ⟨b, 0, none⟩), .int .i64 0] w fun e w' => e = .returned (.pointer (some ⟨L.b0, 0, none⟩)) ∧ w = w' := by
  have hc := h.blk.c 0
  rw [show (x.cells L)[0]? = some (.pointer (some ⟨L.b0, 0, none⟩)) from rfl] at hc
  have HS := Lib.hid (PrSide_c 0 w)
  go_enter Tryz.func18, Tryz.ntmps18
  go_wp2_with (first | ((with_reducible refine HS.out.mono ?_); rintro e w2 ⟨rfl, rfl⟩))
  go_ret
  exact ⟨rfl, rfl⟩
theorem PrPost1_c (h : PrAt w b x L ws) : Calls Tryz.prog 18 #[.pointer (some ⟨b, 0, none⟩), .int .i64 1] w fun e w' => e = .returned (.pointer (some ⟨L.b1, 0, none⟩)) ∧ w = w' := by
  have hc := h.blk.c 1
  rw [show (x.cells L)[1]? = some (.pointer (some ⟨L.b1, 0, none⟩)) from rfl] at hc
  have HS := Lib.hid (PrSide_c 1 w)
  go_enter Tryz.func18, Tryz.ntmps18
  go_wp2_with (first | ((with_reducible refine HS.out.mono ?_); rintro e w2 ⟨rfl, rfl⟩))
  go_ret
  exact ⟨rfl, rfl⟩
theorem PrWire0_c (h : PrAt w b x L ws) : Calls Tryz.prog 19 #[.pointer (some ⟨b, 0, none⟩), .int .i64 0] w fun e w' => e = .returned (.pointer (some ⟨L.c0, 0, none⟩)) ∧ w = w' := by
  have hc := h.blk.c 2
  rw [show (x.cells L)[2]? = some (.pointer (some ⟨L.c0, 0, none⟩)) from rfl] at hc
  have HS := Lib.hid (PrSide_c 0 w)
  go_enter Tryz.func19, Tryz.ntmps19
  go_wp2_with (first | ((with_reducible refine HS.out.mono ?_); rintro e w2 ⟨rfl, rfl⟩))
  go_ret
  exact ⟨rfl, rfl⟩
theorem PrWire1_c (h : PrAt w b x L ws) : Calls Tryz.prog 19 #[.pointer (some ⟨b, 0, none⟩), .int .i64 1] w fun e w' => e = .returned (.pointer (some ⟨L.c1, 0, none⟩)) ∧ w = w' := by
  have hc := h.blk.c 3
  rw [show (x.cells L)[3]? = some (.pointer (some ⟨L.c1, 0, none⟩)) from rfl] at hc
  have HS := Lib.hid (PrSide_c 1 w)
  go_enter Tryz.func19, Tryz.ntmps19
  go_wp2_with (first | ((with_reducible refine HS.out.mono ?_); rintro e w2 ⟨rfl, rfl⟩))
  go_ret
  exact ⟨rfl, rfl⟩
end
/-- There is no such side. -/
theorem PrPostN_c (b : Nat) (n : Int) (h0 : n ≠ 0) (h1 : n ≠ 1) (w : World) : Calls Tryz.prog 18 #[.pointer (some ⟨b, 0, none⟩), .int .i64 n] w fun e w' => e = .returned (.pointer none) ∧ w = w' := by
  have hs := PrSide_c n w
  rw [beq_eq_false_iff_ne.2 h0, beq_eq_false_iff_ne.2 h1] at hs
  have HS := Lib.hid hs
  clear hs
  go_enter Tryz.func18, Tryz.ntmps18
  go_wp2_with (first | ((with_reducible refine HS.out.mono ?_); rintro e w2 ⟨rfl, rfl⟩))
  go_ret
  exact ⟨rfl, rfl⟩
theorem PrWireN_c (b : Nat) (n : Int) (h0 : n ≠ 0) (h1 : n ≠ 1) (w : World) : Calls Tryz.prog 19 #[.pointer (some ⟨b, 0, none⟩), .int .i64 n] w fun e w' => e = .returned (.pointer none) ∧ w = w' := by
  have hs := PrSide_c n w
  rw [beq_eq_false_iff_ne.2 h0, beq_eq_false_iff_ne.2 h1] at hs
  have HS := Lib.hid hs
  clear hs
  go_enter Tryz.func19, Tryz.ntmps19
  go_wp2_with (first | ((with_reducible refine HS.out.mono ?_); rintro e w2 ⟨rfl, rfl⟩))
  go_ret
  exact ⟨rfl, rfl⟩
/-- Of no pair. -/
theorem NPost_c (n : Int) (w : World) : Calls Tryz.prog 18 #[.pointer none, .int .i64 n] w fun e w' => e = .returned (.pointer none) ∧ w = w' := by
  go_enter Tryz.func18, Tryz.ntmps18
  go_wp2
  go_ret
  exact ⟨rfl, rfl⟩
theorem NWire_c (n : Int) (w : World) : Calls Tryz.prog 19 #[.pointer none, .int .i64 n] w fun e w' => e = .returned (.pointer none) ∧ w = w' := by
  go_enter Tryz.func19, Tryz.ntmps19
  go_wp2
  go_ret
  exact ⟨rfl, rfl⟩
theorem NTime_c (w : World) : Calls Tryz.prog 24 #[.pointer none] w fun e w' => e = .returned (.int .i64 0) ∧ w = w' := by
  go_enter Tryz.func24, Tryz.ntmps24
  go_wp2
  go_ret
  exact ⟨rfl, rfl⟩
theorem NPTick_c (w : World) : Calls Tryz.prog 21 #[.pointer none] w fun e w' => e = .returned (.tuple #[]) ∧ w = w' := by
  go_enter Tryz.func21, Tryz.ntmps21
  go_wp2
  refine bodyPost_ret (results_none rfl _ _ _) rfl ?_
  exact ⟨rfl, rfl⟩
theorem NWatch_c (w : World) : Calls Tryz.prog 22 #[.pointer none, .nilIface] w fun e w' => e = .returned (.tuple #[]) ∧ w = w' := by
  go_enter Tryz.func22, Tryz.ntmps22
  go_wp2
  go_end0
  exact ⟨rfl, rfl⟩
theorem NDo_c (k s n m : Value) (ok op : Value) (w : World) : Calls Tryz.prog 23 #[.pointer none, .agg #[k, s, n, m, ok, op]] w fun e w' => e = .returned (.int .i64 2) ∧ Below w.heap.size w w' := by
  go_enter Tryz.func23, Tryz.ntmps23
  go_wp2
  go_ret
  exact ⟨rfl, by first | exact bl_alloc (bl_refl w) _ | exact bl_refl w⟩
end
/-! ### The walk of Pair.Do: an order. -/
section
open Go Go.RowKit
set_option linter.unusedVariables false
set_option maxHeartbeats 40000000
set_option maxRecDepth 100000
/-- What watchers make of an order. -/
structure Wo {σ : Type} (R : Wr σ) where
  fO : Nat → FuncId
  od : Nat → Nat → Int → Oct → Int → σ → σ
  pre : Int → Prop
  nilO : ∀ {j : Nat} {T : TypeId} {g : Nat}, R.ws[j]? = some (T, g) → ∀ w, (nilAhead 408 T (.pointer (some ⟨g, 0, none⟩)) "Order").run Tryz.prog w = .ok (some false) w
  metO : ∀ {j : Nat} {T : TypeId} {g : Nat}, R.ws[j]? = some (T, g) → ∀ w, (method 408 T (.pointer (some ⟨g, 0, none⟩)) "Order").run Tryz.prog w = .ok (fO j, .pointer (some ⟨g, 0, none⟩)) w
  entO : ∀ {j : Nat} {T : TypeId} {g : Nat}, R.ws[j]? = some (T, g) → ∀ args w, (callFunc (fO j) args).run Tryz.prog w = .ok (.enter (fO j) args) w
  order : ∀ {j : Nat} {T : TypeId} {g : Nat}, R.ws[j]? = some (T, g) → ∀ {n : Nat} {w : World} {s : σ} {A : List Nat} {vp : Value} {o : Oct} (i : Nat) (k er : Int), R.At n w s A → n ≤ 1000000000000000 → BytI w A vp o → o.length ≤ 100000 → i ≤ 1 → 0 ≤ k ∧ k ≤ 255 → pre k →
    Calls Tryz.prog (fO j) #[.pointer (some ⟨g, 0, none⟩), .int .i64 (i : Int), .agg #[.int .u8 k, vp], .int .i64 er] w fun e w' => e = .returned (.tuple #[]) ∧ ∃ A', R.At (n + 10000000) w' (od j i k o er s) A' ∧ Chg A w w' ∧ ∀ k ∈ A', k ∈ A ∨ w.heap.size ≤ k
def Wo.none : Wo Wr.none where
  fO := fun _ => 0
  od := fun _ _ _ _ _ s => s
  pre := fun _ => True
  nilO := fun h => by cases h
  metO := fun h => by cases h
  entO := fun h => by cases h
  order := fun h => by cases h
def Wo.tell {σ : Type} {R : Wr σ} (O : Wo R) (i : Nat) (k : Int) (o : Oct) (er : Int) : Nat → σ → σ
  | 0, s => s
  | j + 1, s => O.od j i k o er (O.tell i k o er j s)
def Pr.ord0 (x : Pr) (k : Int) (o : Oct) : Pr := { x with p0 := { x.p0 with x := (x.p0.x.order k o).1 } }
def Pr.ord1 (x : Pr) (k : Int) (o : Oct) : Pr := { x with p1 := { x.p1 with x := (x.p1.x.order k o).1 } }
theorem Po.ok_order {p : Po} {m : Nat} (h : p.ok m) (k : Int) (o : Oct) : ({ p with x := (p.x.order k o).1 } : Po).ok (m + 1) :=
  ⟨St.ok_order h.x k o, (St.few_order h.few k o).le (by omega), (h.le (m := m + 1) (by omega)).e, (h.le (m := m + 1) (by omega)).gone, (h.le (m := m + 1) (by omega)).came, h.out, (h.le (m := m + 1) (by omega)).sent, (h.le (m := m + 1) (by omega)).got⟩
theorem Pr.ok_ord0 {x : Pr} {m : Nat} (h : x.ok m) (k : Int) (o : Oct) : (x.ord0 k o).ok (m + 1) := ⟨Po.ok_order h.p0 k o, h.p1.le (by omega), h.w0.le (by omega), h.w1.le (by omega), h.n0, h.n1, by have := h.time; simp only [Pr.ord0]; omega⟩
theorem Pr.ok_ord1 {x : Pr} {m : Nat} (h : x.ok m) (k : Int) (o : Oct) : (x.ord1 k o).ok (m + 1) := ⟨h.p0.le (by omega), Po.ok_order h.p1 k o, h.w0.le (by omega), h.w1.le (by omega), h.n0, h.n1, by have := h.time; simp only [Pr.ord1]; omega⟩
/-- A pair whose watchers have seen an order, some of them; a block stands aside. -/
def SeenO {σ : Type} (R : Wr σ) (n : Nat) (w w' : World) (b : Nat) (y : Pr) (s : σ) (L : PrL) (A : List Nat) (n0 : Nat) (cs : Array Value) (t : TypeId) (vp : Value) (o : Oct) : Prop :=
  ∃ L' A', PrAt w' b y L' R.ws ∧ R.At n w' s A' ∧ Dis (prF b L') A' ∧ n0 ∉ A' ∧ Blk w' n0 cs t ∧ BytI w' A' vp o ∧ L.same L' ∧ Chg (prF b L ++ A) w w' ∧ ∀ k ∈ prF b L' ++ A', k ∈ prF b L ++ A ∨ w.heap.size ≤ k
section
variable {σ : Type} {R : Wr σ} {n : Nat} {w w1 w2 : World} {b : Nat} {y z : Pr} {s : σ} {L L1 : PrL} {A A1 : List Nat} {n0 : Nat} {cs : Array Value} {t : TypeId} {vp : Value} {o : Oct}
theorem SeenO.done (h : SeenO R n w w1 b y s L A n0 cs t vp o) : PrB R n w w1 b y s L A := by
  obtain ⟨L', A', P, W, D, _, _, _, e, G, O⟩ := h
  exact ⟨L', A', P, W, D, e, G, O⟩
theorem SeenO.step {n1 : Nat} {s1 : σ} {A2 : List Nat} (P : PrAt w1 b y L1 R.ws) (W : R.At n w1 s A1) (D : Dis (prF b L1) A1) (V : n0 ∉ A1) (T : Blk w1 n0 cs t) (BI : BytI w1 A1 vp o) (e : L.same L1) (G : Chg (prF b L ++ A) w w1) (O : ∀ k ∈ prF b L1 ++ A1, k ∈ prF b L ++ A ∨ w.heap.size ≤ k)
    (W2 : R.At n1 w2 s1 A2) (G2 : Chg A1 w1 w2) (O2 : ∀ k ∈ A2, k ∈ A1 ∨ w1.heap.size ≤ k) : SeenO R n1 w w2 b y s1 L A n0 cs t vp o := by
  refine ⟨L1, A2, P.far (R.off W) D G2, W2, D.wgrow O2 P.lt, fun hk => ?_, T.chg G2 V, BytI.mono2 (BI.chg G2 (fun k hk => hk)) (BI.mono O2), e, G.trans G2 (fun k hk => O k (List.mem_append_right _ hk)), fun k hk => ?_⟩
  · rcases O2 _ hk with h9 | h9
    · exact V h9
    · have := T.lt; omega
  · rcases List.mem_append.1 hk with h | h
    · exact O k (List.mem_append_left _ h)
    · rcases O2 k h with h9 | h9
      · exact O k (List.mem_append_right _ h9)
      · exact .inr (Nat.le_trans G.size h9)
end
theorem DoTell0_c {σ : Type} {R : Wr σ} (O : Wo R) {w : World} {b n m : Nat} {x : Pr} {s : σ} {L : PrL} {A : List Nat} {vp : Value} {o : Oct} (P : PrAt w b x L R.ws) (W : R.At n w s A) (D : Dis (prF b L) A) (hk : x.ok m) (hm : m ≤ 800000) (hn : n ≤ 100000000000000)
    (k : Int) (hkr : 0 ≤ k ∧ k ≤ 255) (hpre : O.pre k) (hv : BytI w (prF b L ++ A) vp o) (hl : o.length ≤ 100000) (N : Int) (am : Option Addr) (nm cm : Nat) :
    Calls Tryz.prog 23 #[.pointer (some ⟨b, 0, none⟩), .agg #[.int .u8 1, .int .i64 0, .int .i64 N, .slice am nm cm, .int .u8 k, vp]] w fun e w' => e = .returned (.int .i64 (x.p0.x.order k o).2) ∧ PrB R (n + 100000000) w w' b (x.ord0 k o) (O.tell 0 k o (x.p0.x.order k o).2 R.ws.length s) L A := by
  obtain ⟨ap, cp, rfl, _⟩ := hv.shape
  obtain ⟨n0, hn0⟩ : ∃ n0, w.heap.size = n0 := ⟨_, rfl⟩
  obtain ⟨av, cv, evw, hcv⟩ := P.wt.shape
  have ba := bl_alloc (bl_refl w) (.cells #[.int .u8 1, .int .i64 0, .int .i64 N, .slice am nm cm, .int .u8 k, .slice ap o.length cp] 29)
  have N1 : Blk (w.alloc (.cells #[.int .u8 1, .int .i64 0, .int .i64 N, .slice am nm cm, .int .u8 k, .slice ap o.length cp] 29)) n0 #[.int .u8 1, .int .i64 0, .int .i64 N, .slice am nm cm, .int .u8 k, .slice ap o.length cp] 29 := hn0 ▸ Blk.new w _ _
  have K1 := P.blk.below ba
  have hn0A : n0 ∉ A := fun h => by have := R.lt W _ h; omega
  have hn0P : n0 ∉ prF b L := fun h => by have := P.lt _ h; omega
  have HB1 := Lib.hid ba
  have HP := Lib.hid P
  have HW := Lib.hid W
  have HD := Lib.hid D
  have HK := Lib.hid hk
  have HV := Lib.hid hv
  have HN1 := Lib.hid N1
  have n1c := N1.c
  have HS := Lib.hid (fun w => PrSide_c 0 w)
  clear P W D hk hv
  go_enter Tryz.func23, Tryz.ntmps23
  go_upto_region 15 with (first | ((with_reducible refine (HS.out _).mono ?_); rintro e w2 ⟨rfl, rfl⟩))
  clear n1c
  generalize w.alloc (.cells #[.int .u8 1, .int .i64 0, .int .i64 N, .slice am nm cm, .int .u8 k, .slice ap o.length cp] 29) = w1 at N1 K1 HB1 HN1 ⊢
  refine wp_region_up_tail 9 (by kernel_rfl) (by kernel_rfl) ?_
  simp only [List.take_succ_cons, List.take_zero, List.drop_succ_cons, List.drop_zero]
  have up_K1 := fun (g : Up _) => (Blk.below K1 g.ok).c
  have up_N1 := fun (g : Up _) => (Blk.below N1 g.ok).c
  repeat (go_big_quiet_step (fail))
  refine wpQuiet_nil ?_
  clear up_K1 up_N1
  refine up_elim (fun w5 hb_w5 => ?_)
  have B5 := Lib.hid (bl_then HB1.out hb_w5)
  have P5 := Lib.hid (HP.out.below B5.out)
  have N5 := Lib.hid (Blk.below HN1.out hb_w5)
  have HO := Lib.hid (POrder_c P5.out.p0 HK.out.p0.x (HK.out.p0.few.le (by omega)) k (HV.out.below B5.out) hl)
  have k5c := P5.out.blk.c 21
  rw [cells_at21 P5.out.n0 P5.out.n1, evw] at k5c
  clear K1 N1 hb_w5
  go_wp2_with (first
    | ((with_reducible refine HO.out.mono ?_); rintro e w6 ⟨rfl, T6⟩; (have B6 := (P5.out.blk.keep (P5.out.p0.typed.off (by decide)) T6.choose_spec.2.2.1)); (have k6v := (B6.c 21).trans (by rw [cells_at21 P5.out.n0 P5.out.n1, evw])); (have N6 := N5.out.keep (P5.out.p0.typed.off (by decide)) T6.choose_spec.2.2.1); (have n6c := N6.c); (have HN6 := Lib.hid N6); (have HT6 := Lib.hid T6); clear T6 B6 N6))
  clear k5c
  have HQ6 := Lib.hid (PrTo.byP0 P5.out HT6.out)
  go_loopw [91] (fun j wz => ∃ z : Nat, z ≤ R.ws.length ∧ j = .int .i64 z ∧ SeenO R (n + z * 10000000) w wz b (x.ord0 k o) (O.tell 0 k o (x.p0.x.order k o).2 z s) L A n0 #[.int .u8 1, .int .i64 0, .int .i64 N, .slice am nm cm, .int .u8 k, .slice ap o.length cp] 29 (.slice ap o.length cp) o) (fun j _ => R.ws.length - (intOf j).toNat)
  case atStart =>
    obtain ⟨L6, P6, e6, G6, O6⟩ := HQ6.out
    have GG : Chg (prF b L) w w6 := (Chg.of_below B5.out _).then G6
    have hOO : ∀ k ∈ prF b L6, k ∈ prF b L ∨ w.heap.size ≤ k := fun k hk => (O6 k hk).imp id (fun h9 => Nat.le_trans B5.out.size h9)
    refine ⟨0, by omega, rfl, L6, A, P6, ?_, HD.out.grow hOO (R.lt HW.out), hn0A, HN6.out, ?_, e6, GG.more (fun k hk => List.mem_append_left _ hk), fun k hk => ?_⟩
    · rw [Nat.zero_mul, Nat.add_zero]
      exact R.far HW.out GG (HP.out.typed.off (by decide)) HD.out.symm
    · exact BytI.mono2 (HV.out.chg GG (fun k hk => List.mem_append_left _ hk)) (HV.out.mono (fun k hk => .inl (List.mem_append_right _ hk)))
    · rcases List.mem_append.1 hk with h | h
      · exact (hOO k h).imp (fun h9 => List.mem_append_left _ h9) id
      · exact .inl (List.mem_append_right _ h)
  case round =>
    clear n6c k6v
    obtain ⟨z, hz, rfl, S⟩ := hrel
    by_cases hlt : z < R.ws.length
    · have hlt' : (z : Int) < R.ws.length := by omega
      obtain ⟨⟨T9, g9⟩, hws⟩ : ∃ u, R.ws[z]? = some u := ⟨_, List.getElem?_eq_getElem hlt⟩
      have nA := O.nilO hws
      have mA := O.metO hws
      have eA := O.entO hws
      obtain ⟨L3, A3, P3, W3, D3, V3, T3, BI3, e3, G3, O3⟩ := S
      have n3c := T3.c
      obtain ⟨bw, ow, rfl, hcw⟩ := Row.at1 ((e3.vw.trans evw) ▸ P3.wt : Row wr 142 1 (.slice av R.ws.length cv) R.ws.length _) z _ (by rw [List.getElem?_map, hws]; rfl)
      dsimp only at hcw
      have hzl := R.len
      have HTK := Lib.hid (show Calls Tryz.prog (O.fO z) #[.pointer (some ⟨g9, 0, none⟩), .int .i64 0, .agg #[.int .u8 k, .slice ap o.length cp], .int .i64 (x.p0.x.order k o).2] wr _ from O.order hws 0 k (x.p0.x.order k o).2 W3 (by omega) BI3 hl (by omega) hkr hpre)
      have ST := Lib.hid (fun (w9 : World) (A9 : List Nat) (W9 : R.At (n + z * 10000000 + 10000000) w9 (O.tell 0 k o (x.p0.x.order k o).2 (z + 1) s) A9) (G9 : Chg A3 wr w9) (O9 : ∀ k ∈ A9, k ∈ A3 ∨ wr.heap.size ≤ k) => SeenO.step P3 W3 D3 V3 T3 BI3 e3 G3 O3 W9 G9 O9)
      clear P3 W3 D3 V3 T3 BI3 e3 G3 O3
      go_wp2_with (first
        | ((with_reducible refine HTK.out.mono ?_); rintro e w7 ⟨rfl, A7, W7, G7, O7⟩; (have HS7 := Lib.hid (ST.out _ _ W7 G7 O7)); clear W7 G7 O7))
      go_roundw
      case rel => exact ⟨z + 1, by omega, by go_num, by rw [Nat.succ_mul, ← Nat.add_assoc]; exact HS7.out⟩
      case measure => simp [intOf]; omega
    · obtain rfl : z = R.ws.length := by omega
      have HSn := Lib.hid S
      clear S
      have hnl : ¬ ((R.ws.length : Int) < R.ws.length) := by omega
      go_wp2
      go_ret
      exact ⟨rfl, (SeenO.done HSn.out).le (by have := R.len; omega)⟩
theorem DoTell1_c {σ : Type} {R : Wr σ} (O : Wo R) {w : World} {b n m : Nat} {x : Pr} {s : σ} {L : PrL} {A : List Nat} {vp : Value} {o : Oct} (P : PrAt w b x L R.ws) (W : R.At n w s A) (D : Dis (prF b L) A) (hk : x.ok m) (hm : m ≤ 800000) (hn : n ≤ 100000000000000)
    (k : Int) (hkr : 0 ≤ k ∧ k ≤ 255) (hpre : O.pre k) (hv : BytI w (prF b L ++ A) vp o) (hl : o.length ≤ 100000) (N : Int) (am : Option Addr) (nm cm : Nat) :
    Calls Tryz.prog 23 #[.pointer (some ⟨b, 0, none⟩), .agg #[.int .u8 1, .int .i64 1, .int .i64 N, .slice am nm cm, .int .u8 k, vp]] w fun e w' => e = .returned (.int .i64 (x.p1.x.order k o).2) ∧ PrB R (n + 100000000) w w' b (x.ord1 k o) (O.tell 1 k o (x.p1.x.order k o).2 R.ws.length s) L A := by
  obtain ⟨ap, cp, rfl, _⟩ := hv.shape
  obtain ⟨n0, hn0⟩ : ∃ n0, w.heap.size = n0 := ⟨_, rfl⟩
  obtain ⟨av, cv, evw, hcv⟩ := P.wt.shape
  have ba := bl_alloc (bl_refl w) (.cells #[.int .u8 1, .int .i64 1, .int .i64 N, .slice am nm cm, .int .u8 k, .slice ap o.length cp] 29)
  have N1 : Blk (w.alloc (.cells #[.int .u8 1, .int .i64 1, .int .i64 N, .slice am nm cm, .int .u8 k, .slice ap o.length cp] 29)) n0 #[.int .u8 1, .int .i64 1, .int .i64 N, .slice am nm cm, .int .u8 k, .slice ap o.length cp] 29 := hn0 ▸ Blk.new w _ _
  have K1 := P.blk.below ba
  have hn0A : n0 ∉ A := fun h => by have := R.lt W _ h; omega
  have hn0P : n0 ∉ prF b L := fun h => by have := P.lt _ h; omega
  have HB1 := Lib.hid ba
  have HP := Lib.hid P
  have HW := Lib.hid W
  have HD := Lib.hid D
  have HK := Lib.hid hk
  have HV := Lib.hid hv
  have HN1 := Lib.hid N1
  have n1c := N1.c
  have HS := Lib.hid (fun w => PrSide_c 1 w)
  clear P W D hk hv
  go_enter Tryz.func23, Tryz.ntmps23
  go_upto_region 15 with (first | ((with_reducible refine (HS.out _).mono ?_); rintro e w2 ⟨rfl, rfl⟩))
  clear n1c
  generalize w.alloc (.cells #[.int .u8 1, .int .i64 1, .int .i64 N, .slice am nm cm, .int .u8 k, .slice ap o.length cp] 29) = w1 at N1 K1 HB1 HN1 ⊢
  refine wp_region_up_tail 9 (by kernel_rfl) (by kernel_rfl) ?_
  simp only [List.take_succ_cons, List.take_zero, List.drop_succ_cons, List.drop_zero]
  have up_K1 := fun (g : Up _) => (Blk.below K1 g.ok).c
  have up_N1 := fun (g : Up _) => (Blk.below N1 g.ok).c
  repeat (go_big_quiet_step (fail))
  refine wpQuiet_nil ?_
  clear up_K1 up_N1
  refine up_elim (fun w5 hb_w5 => ?_)
  have B5 := Lib.hid (bl_then HB1.out hb_w5)
  have P5 := Lib.hid (HP.out.below B5.out)
  have N5 := Lib.hid (Blk.below HN1.out hb_w5)
  have HO := Lib.hid (POrder_c P5.out.p1 HK.out.p1.x (HK.out.p1.few.le (by omega)) k (HV.out.below B5.out) hl)
  have k5c := P5.out.blk.c 21
  rw [cells_at21 P5.out.n0 P5.out.n1, evw] at k5c
  clear K1 N1 hb_w5
  go_wp2_with (first
    | ((with_reducible refine HO.out.mono ?_); rintro e w6 ⟨rfl, T6⟩; (have B6 := (P5.out.blk.keep (P5.out.p1.typed.off (by decide)) T6.choose_spec.2.2.1)); (have k6v := (B6.c 21).trans (by rw [cells_at21 P5.out.n0 P5.out.n1, evw])); (have N6 := N5.out.keep (P5.out.p1.typed.off (by decide)) T6.choose_spec.2.2.1); (have n6c := N6.c); (have HN6 := Lib.hid N6); (have HT6 := Lib.hid T6); clear T6 B6 N6))
  clear k5c
  have HQ6 := Lib.hid (PrTo.byP1 P5.out HT6.out)
  go_loopw [91] (fun j wz => ∃ z : Nat, z ≤ R.ws.length ∧ j = .int .i64 z ∧ SeenO R (n + z * 10000000) w wz b (x.ord1 k o) (O.tell 1 k o (x.p1.x.order k o).2 z s) L A n0 #[.int .u8 1, .int .i64 1, .int .i64 N, .slice am nm cm, .int .u8 k, .slice ap o.length cp] 29 (.slice ap o.length cp) o) (fun j _ => R.ws.length - (intOf j).toNat)
  case atStart =>
    obtain ⟨L6, P6, e6, G6, O6⟩ := HQ6.out
    have GG : Chg (prF b L) w w6 := (Chg.of_below B5.out _).then G6
    have hOO : ∀ k ∈ prF b L6, k ∈ prF b L ∨ w.heap.size ≤ k := fun k hk => (O6 k hk).imp id (fun h9 => Nat.le_trans B5.out.size h9)
    refine ⟨0, by omega, rfl, L6, A, P6, ?_, HD.out.grow hOO (R.lt HW.out), hn0A, HN6.out, ?_, e6, GG.more (fun k hk => List.mem_append_left _ hk), fun k hk => ?_⟩
    · rw [Nat.zero_mul, Nat.add_zero]
      exact R.far HW.out GG (HP.out.typed.off (by decide)) HD.out.symm
    · exact BytI.mono2 (HV.out.chg GG (fun k hk => List.mem_append_left _ hk)) (HV.out.mono (fun k hk => .inl (List.mem_append_right _ hk)))
    · rcases List.mem_append.1 hk with h | h
      · exact (hOO k h).imp (fun h9 => List.mem_append_left _ h9) id
      · exact .inl (List.mem_append_right _ h)
  case round =>
    clear n6c k6v
    obtain ⟨z, hz, rfl, S⟩ := hrel
    by_cases hlt : z < R.ws.length
    · have hlt' : (z : Int) < R.ws.length := by omega
      obtain ⟨⟨T9, g9⟩, hws⟩ : ∃ u, R.ws[z]? = some u := ⟨_, List.getElem?_eq_getElem hlt⟩
      have nA := O.nilO hws
      have mA := O.metO hws
      have eA := O.entO hws
      obtain ⟨L3, A3, P3, W3, D3, V3, T3, BI3, e3, G3, O3⟩ := S
      have n3c := T3.c
      obtain ⟨bw, ow, rfl, hcw⟩ := Row.at1 ((e3.vw.trans evw) ▸ P3.wt : Row wr 142 1 (.slice av R.ws.length cv) R.ws.length _) z _ (by rw [List.getElem?_map, hws]; rfl)
      dsimp only at hcw
      have hzl := R.len
      have HTK := Lib.hid (show Calls Tryz.prog (O.fO z) #[.pointer (some ⟨g9, 0, none⟩), .int .i64 1, .agg #[.int .u8 k, .slice ap o.length cp], .int .i64 (x.p1.x.order k o).2] wr _ from O.order hws 1 k (x.p1.x.order k o).2 W3 (by omega) BI3 hl (by omega) hkr hpre)
      have ST := Lib.hid (fun (w9 : World) (A9 : List Nat) (W9 : R.At (n + z * 10000000 + 10000000) w9 (O.tell 1 k o (x.p1.x.order k o).2 (z + 1) s) A9) (G9 : Chg A3 wr w9) (O9 : ∀ k ∈ A9, k ∈ A3 ∨ wr.heap.size ≤ k) => SeenO.step P3 W3 D3 V3 T3 BI3 e3 G3 O3 W9 G9 O9)
      clear P3 W3 D3 V3 T3 BI3 e3 G3 O3
      go_wp2_with (first
        | ((with_reducible refine HTK.out.mono ?_); rintro e w7 ⟨rfl, A7, W7, G7, O7⟩; (have HS7 := Lib.hid (ST.out _ _ W7 G7 O7)); clear W7 G7 O7))
      go_roundw
      case rel => exact ⟨z + 1, by omega, by go_num, by rw [Nat.succ_mul, ← Nat.add_assoc]; exact HS7.out⟩
      case measure => simp [intOf]; omega
    · obtain rfl : z = R.ws.length := by omega
      have HSn := Lib.hid S
      clear S
      have hnl : ¬ ((R.ws.length : Int) < R.ws.length) := by omega
      go_wp2
      go_ret
      exact ⟨rfl, (SeenO.done HSn.out).le (by have := R.len; omega)⟩
end
/-! ### The walk of pair.New. -/
section
open Go Go.RowKit
set_option linter.unusedVariables false
set_option maxHeartbeats 40000000
set_option maxRecDepth 100000
abbrev zeroP : Array Value := #[.pointer none, .pointer none, .pointer none, .pointer none, .bool false, .bool false, .bool false, .bool false, .bool false, .bool false, .bool false, .bool false, .bool false, .bool false, .bool false, .bool false, .bool false, .bool false, .bool false, .bool false, .int .i64 0, .slice none 0 0]
/-- A terminal and a wire of it, all of them new. -/
def Half (w0 w : World) (s : Su) (d : Nat) (b c : Nat) (L : PoL) (vl : Value) : Prop := PoAt w b (Po.new s) L ∧ WiAt w c (Wi.new d) vl nil0 ∧ (∀ k ∈ poF b L, w0.heap.size ≤ k) ∧ (∀ k ∈ wiF c vl nil0, w0.heap.size ≤ k) ∧ Dis (poF b L) (wiF c vl nil0)
theorem Half.below {w0 w w1 : World} {s : Su} {d b c : Nat} {L : PoL} {vl : Value} (h : Half w0 w s d b c L vl) (hb : Below w.heap.size w w1) : Half w0 w1 s d b c L vl := ⟨h.1.below hb, h.2.1.below hb, h.2.2.1, h.2.2.2.1, h.2.2.2.2⟩
theorem Half.far {w0 w w1 : World} {s : Su} {d b c g : Nat} {L : PoL} {vl : Value} {cs : Array Value} (h : Half w0 w s d b c L vl) (K : Blk w g cs 128) (G : Chg [g] w w1) : Half w0 w1 s d b c L vl := by
  have T := Typed.one K
  have D : ∀ {F : List Nat} {us : List TypeId}, Typed w F us → 128 ∉ us → ∀ k ∈ F, k ∉ [g] := fun TF hu k hk hb => by
    obtain rfl : k = g := by simpa using hb
    exact (TF.off hu).notin K hk
  exact ⟨h.1.far (T.off (by decide)) (D h.1.typed (by decide)) G, h.2.1.far (D h.2.1.typed (by decide)) G, h.2.2.1, h.2.2.2.1, h.2.2.2.2⟩
theorem PrNew_c (s : Su) (d : Nat) (hd : d ≤ 65536) (w : World) (HC : ∀ w, Calls Tryz.prog 17 #[s.v] w fun e w' => e = .returned (.int .i64 0) ∧ Below w.heap.size w w') :
    Calls Tryz.prog 16 #[s.v, .int .i64 (d : Int)] w fun e w' => ∃ b, e = .returned (.tuple #[.pointer (some ⟨b, 0, none⟩), .int .i64 0]) ∧ ∃ L, PrAt w' b (Pr.new s d) L [] ∧ Below w.heap.size w w' ∧ ∀ k ∈ prF b L, w.heap.size ≤ k := by
  have HN := Lib.hid (fun w => PNew_c s w HC)
  have HW := Lib.hid (fun w => WiNew_c d hd w)
  obtain ⟨cyc, n1, n2, hdd, oc, t0, t1, t2, t3, t4, t5, t6, t7⟩ := s
  obtain ⟨n0, hn0⟩ : ∃ n0, w.heap.size = n0 := ⟨_, rfl⟩
  have BA := Lib.hid (bl_alloc (bl_refl w) (.cells #[.bool cyc, .int .i64 n1, .int .i64 n2, .int .i64 hdd, .int .i64 oc, .int .i64 t0, .int .i64 t1, .int .i64 t2, .int .i64 t3, .int .i64 t4, .int .i64 t5, .int .i64 t6, .int .i64 t7] 24))
  have NA := Lib.hid (hn0 ▸ Blk.new w #[.bool cyc, .int .i64 n1, .int .i64 n2, .int .i64 hdd, .int .i64 oc, .int .i64 t0, .int .i64 t1, .int .i64 t2, .int .i64 t3, .int .i64 t4, .int .i64 t5, .int .i64 t6, .int .i64 t7] 24 : Blk (w.alloc _) n0 _ _)
  have SZ := Lib.hid (show (w.alloc (.cells #[.bool cyc, .int .i64 n1, .int .i64 n2, .int .i64 hdd, .int .i64 oc, .int .i64 t0, .int .i64 t1, .int .i64 t2, .int .i64 t3, .int .i64 t4, .int .i64 t5, .int .i64 t6, .int .i64 t7] 24)).heap.size = n0 + 1 from by simp [hn0])
  go_enter Tryz.func16, Tryz.ntmps16
  go_upto_region 2 with fail
  generalize w.alloc (.cells #[.bool cyc, .int .i64 n1, .int .i64 n2, .int .i64 hdd, .int .i64 oc, .int .i64 t0, .int .i64 t1, .int .i64 t2, .int .i64 t3, .int .i64 t4, .int .i64 t5, .int .i64 t6, .int .i64 t7] 24) = w1 at BA NA SZ ⊢
  have N2 := Lib.hid (Blk.newAt (w := w1) (n := n0 + 1) SZ.out zeroP 128)
  have NA2 := Lib.hid (NA.out.alloc (.cells zeroP 128))
  have BA2 := Lib.hid (bl_alloc BA.out (.cells zeroP 128))
  generalize w1.alloc (.cells zeroP 128) = w2 at N2 NA2 BA2 ⊢
  clear BA NA SZ
  go_wp2
  go_loopw [13] (fun i wr => (i = .int .i64 0 ∧ Below w.heap.size w wr ∧ Blk wr n0 #[.bool cyc, .int .i64 n1, .int .i64 n2, .int .i64 hdd, .int .i64 oc, .int .i64 t0, .int .i64 t1, .int .i64 t2, .int .i64 t3, .int .i64 t4, .int .i64 t5, .int .i64 t6, .int .i64 t7] 24 ∧ Blk wr (n0 + 1) zeroP 128)
    ∨ (i = .int .i64 1 ∧ ∃ b0 c0 L0 l0, Below w.heap.size w wr ∧ Blk wr n0 #[.bool cyc, .int .i64 n1, .int .i64 n2, .int .i64 hdd, .int .i64 oc, .int .i64 t0, .int .i64 t1, .int .i64 t2, .int .i64 t3, .int .i64 t4, .int .i64 t5, .int .i64 t6, .int .i64 t7] 24 ∧ Blk wr (n0 + 1) #[.pointer (some ⟨b0, 0, none⟩), .pointer none, .pointer (some ⟨c0, 0, none⟩), .pointer none, .bool false, .bool false, .bool false, .bool false, .bool false, .bool false, .bool false, .bool false, .bool false, .bool false, .bool false, .bool false, .bool false, .bool false, .bool false, .bool false, .int .i64 0, .slice none 0 0] 128 ∧ Half w wr ⟨cyc, n1, n2, hdd, oc, t0, t1, t2, t3, t4, t5, t6, t7⟩ d b0 c0 L0 l0)
    ∨ (i = .int .i64 2 ∧ ∃ b0 c0 L0 l0 b1 c1 L1 l1, Below w.heap.size w wr ∧ Blk wr (n0 + 1) #[.pointer (some ⟨b0, 0, none⟩), .pointer (some ⟨b1, 0, none⟩), .pointer (some ⟨c0, 0, none⟩), .pointer (some ⟨c1, 0, none⟩), .bool false, .bool false, .bool false, .bool false, .bool false, .bool false, .bool false, .bool false, .bool false, .bool false, .bool false, .bool false, .bool false, .bool false, .bool false, .bool false, .int .i64 0, .slice none 0 0] 128 ∧ Half w wr ⟨cyc, n1, n2, hdd, oc, t0, t1, t2, t3, t4, t5, t6, t7⟩ d b0 c0 L0 l0 ∧ Half w wr ⟨cyc, n1, n2, hdd, oc, t0, t1, t2, t3, t4, t5, t6, t7⟩ d b1 c1 L1 l1
      ∧ Dis (poF b0 L0) (poF b1 L1) ∧ Dis (poF b0 L0) (wiF c1 l1 nil0) ∧ Dis (poF b1 L1) (wiF c0 l0 nil0) ∧ Dis (wiF c0 l0 nil0) (wiF c1 l1 nil0))) (fun i _ => 2 - (intOf i).toNat)
  case atStart => exact .inl ⟨rfl, BA2.out, NA2.out, N2.out⟩
  case round =>
    rcases hrel with ⟨rfl, B, K, Z⟩ | ⟨rfl, b0, c0, L0, l0, B, K, Z, H0⟩ | ⟨rfl, b0, c0, L0, l0, b1, c1, L1, l1, B, Z, H0, H1, dpp, d01, d10, dww⟩
    · have kc := K.c
      have HB := Lib.hid B
      have HK := Lib.hid K
      have HZ := Lib.hid Z
      clear B K Z N2 NA2 BA2
      go_upto_region 11 with (first
        | ((with_reducible refine (HN.out _).mono ?_); rintro e w4 ⟨b4, rfl, L4, P4, B4, F4⟩; have HP4 := Lib.hid P4; have HB4 := Lib.hid B4; have HF4 := Lib.hid F4; clear P4 B4 F4)
        | ((with_reducible refine (HW.out _).mono ?_); rintro e w5 ⟨c5, rfl, l5, W5, B5, F5⟩; have HW5 := Lib.hid W5; have HB5 := Lib.hid B5; have HF5 := Lib.hid F5; clear W5 B5 F5))
      have K5 := (HZ.out.below HB4.out).below HB5.out
      have HK5 := Lib.hid K5
      have HK5' := Lib.hid ((HK.out.below HB4.out).below HB5.out)
      clear kc K5
      refine wp_region_any (by kernel_rfl) ?_
      show wpAny _ _ _ _ 14 _ _ _
      refine wpAny_take (i := 2) (v := .pointer (some ⟨n0 + 1, 0, none⟩)) rfl (by kernel_rfl) (by kernel_rfl) (by kernel_rfl) (fun _ _ _ h => h) (Or.inl ⟨by rfl, fun w => by go_simp⟩) ?_
      refine wpAny_take (i := 3) (v := .int .i64 0) rfl (by kernel_rfl) (by kernel_rfl) (by kernel_rfl) (fun _ _ _ h => h) (Or.inl ⟨by rfl, fun w => by go_simp⟩) ?_
      refine wpAny_take (i := 5) (v := .pointer (some ⟨c5, 0, none⟩)) rfl (by kernel_rfl) (by kernel_rfl) (by kernel_rfl) (fun _ _ _ h => h) (Or.inl ⟨by rfl, fun w => by go_simp⟩) ?_
      refine wpAny_take (i := 10) (v := .pointer (some ⟨n0 + 1, 0, none⟩)) rfl (by kernel_rfl) (by kernel_rfl) (by kernel_rfl) (fun _ _ _ h => h) (Or.inl ⟨by rfl, fun w => by go_simp⟩) ?_
      refine wpAny_take (i := 11) (v := .pointer (some ⟨n0 + 1, 2, none⟩)) rfl (by kernel_rfl) (by kernel_rfl) (by kernel_rfl) (fun _ _ _ h => h) (Or.inl ⟨by rfl, fun w => by go_simp⟩) ?_
      refine wpAny_pickL (C := fun w' => ∃ g : Up w5, w' = g.1) 9 [0, 1, 4, 6, 7, 8] [9, 12, 13] (fun l => ((((l.take 9).eraseIdx 5).eraseIdx 3).eraseIdx 2)) (fun l => (((l.drop 9).eraseIdx 2).eraseIdx 1)) (by kernel_rfl) (by kernel_rfl) (by kernel_rfl) ⟨⟨_, (Below.refl _ w5).drew⟩, rfl⟩ ?_
      simp only [List.take_succ_cons, List.take_zero, List.drop_succ_cons, List.drop_zero, List.eraseIdx_cons_succ, List.eraseIdx_cons_zero, Act.put, List.getElem_toArray, List.getElem_cons_succ, List.getElem_cons_zero, List.setIfInBounds_toArray, List.set_cons_succ, List.set_cons_zero]
      repeat (go_big_quiet_step (fail))
      refine wpQuiet_nil ?_
      refine up_elim (fun w6 hb6 => ?_)
      have K6 := HK5.out.below hb6
      have k6c := K6.c
      have k6f := K6.f
      have HK6 := Lib.hid K6
      have HB6 := Lib.hid hb6
      clear K6
      go_wp2
      go_roundw
      case rel =>
        have G := ((Chg.refl [n0 + 1] w6).set (b := n0 + 1) (i := 0) (.inl (by simp)) (.pointer (some ⟨b4, 0, none⟩))).set (b := n0 + 1) (i := 2) (.inl (by simp)) (.pointer (some ⟨c5, 0, none⟩))
        have hlt : n0 + 1 < wr.heap.size := HZ.out.lt
        have hH : Half w w5 ⟨cyc, n1, n2, hdd, oc, t0, t1, t2, t3, t4, t5, t6, t7⟩ d b4 c5 L4 l5 := ⟨HP4.out.below HB5.out, HW5.out, fun k hk => Nat.le_trans HB.out.size (HF4.out k hk), fun k hk => Nat.le_trans (Nat.le_trans HB.out.size HB4.out.size) (HF5.out k hk), fun k hk hk2 => by have h1 := HP4.out.lt k hk; have h2 := HF5.out k hk2; omega⟩
        refine .inr (.inl ⟨by go_num, b4, c5, L4, l5, ?_, ?_, ((HK6.out.set 0 _).set 2 _).as rfl, (hH.below HB6.out).far HK6.out G⟩)
        · exact (bl_then (bl_then (bl_then HB.out HB4.out) HB5.out) HB6.out).trans (G.to_below (Nat.le_trans (Nat.le_trans (Nat.le_trans HB.out.size HB4.out.size) HB5.out.size) HB6.out.size) (fun k hk => by simp at hk; omega))
        · exact (HK5'.out.below HB6.out).chg G (by simp)
      case measure => simp [intOf]
    · have kc := K.c
      have HB := Lib.hid B
      have HK := Lib.hid K
      have HZ := Lib.hid Z
      have HH0 := Lib.hid H0
      clear B K Z N2 NA2 BA2 H0
      go_upto_region 11 with (first
        | ((with_reducible refine (HN.out _).mono ?_); rintro e w4 ⟨b4, rfl, L4, P4, B4, F4⟩; have HP4 := Lib.hid P4; have HB4 := Lib.hid B4; have HF4 := Lib.hid F4; clear P4 B4 F4)
        | ((with_reducible refine (HW.out _).mono ?_); rintro e w5 ⟨c5, rfl, l5, W5, B5, F5⟩; have HW5 := Lib.hid W5; have HB5 := Lib.hid B5; have HF5 := Lib.hid F5; clear W5 B5 F5))
      have K5 := (HZ.out.below HB4.out).below HB5.out
      have HK5 := Lib.hid K5
      clear kc K5
      refine wp_region_any (by kernel_rfl) ?_
      show wpAny _ _ _ _ 14 _ _ _
      refine wpAny_take (i := 2) (v := .pointer (some ⟨n0 + 1, 0, none⟩)) rfl (by kernel_rfl) (by kernel_rfl) (by kernel_rfl) (fun _ _ _ h => h) (Or.inl ⟨by rfl, fun w => by go_simp⟩) ?_
      refine wpAny_take (i := 3) (v := .int .i64 1) rfl (by kernel_rfl) (by kernel_rfl) (by kernel_rfl) (fun _ _ _ h => h) (Or.inl ⟨by rfl, fun w => by go_simp⟩) ?_
      refine wpAny_take (i := 5) (v := .pointer (some ⟨c5, 0, none⟩)) rfl (by kernel_rfl) (by kernel_rfl) (by kernel_rfl) (fun _ _ _ h => h) (Or.inl ⟨by rfl, fun w => by go_simp⟩) ?_
      refine wpAny_take (i := 10) (v := .pointer (some ⟨n0 + 1, 0, none⟩)) rfl (by kernel_rfl) (by kernel_rfl) (by kernel_rfl) (fun _ _ _ h => h) (Or.inl ⟨by rfl, fun w => by go_simp⟩) ?_
      refine wpAny_take (i := 11) (v := .pointer (some ⟨n0 + 1, 2, none⟩)) rfl (by kernel_rfl) (by kernel_rfl) (by kernel_rfl) (fun _ _ _ h => h) (Or.inl ⟨by rfl, fun w => by go_simp⟩) ?_
      refine wpAny_pickL (C := fun w' => ∃ g : Up w5, w' = g.1) 9 [0, 1, 4, 6, 7, 8] [9, 12, 13] (fun l => ((((l.take 9).eraseIdx 5).eraseIdx 3).eraseIdx 2)) (fun l => (((l.drop 9).eraseIdx 2).eraseIdx 1)) (by kernel_rfl) (by kernel_rfl) (by kernel_rfl) ⟨⟨_, (Below.refl _ w5).drew⟩, rfl⟩ ?_
      simp only [List.take_succ_cons, List.take_zero, List.drop_succ_cons, List.drop_zero, List.eraseIdx_cons_succ, List.eraseIdx_cons_zero, Act.put, List.getElem_toArray, List.getElem_cons_succ, List.getElem_cons_zero, List.setIfInBounds_toArray, List.set_cons_succ, List.set_cons_zero]
      repeat (go_big_quiet_step (fail))
      refine wpQuiet_nil ?_
      refine up_elim (fun w6 hb6 => ?_)
      have K6 := HK5.out.below hb6
      have k6c := K6.c
      have k6f := K6.f
      have HK6 := Lib.hid K6
      have HB6 := Lib.hid hb6
      clear K6
      go_wp2
      go_roundw
      case rel =>
        have G := ((Chg.refl [n0 + 1] w6).set (b := n0 + 1) (i := 1) (.inl (by simp)) (.pointer (some ⟨b4, 0, none⟩))).set (b := n0 + 1) (i := 3) (.inl (by simp)) (.pointer (some ⟨c5, 0, none⟩))
        have hlt : n0 + 1 < wr.heap.size := HZ.out.lt
        have hH : Half w w5 ⟨cyc, n1, n2, hdd, oc, t0, t1, t2, t3, t4, t5, t6, t7⟩ d b4 c5 L4 l5 := ⟨HP4.out.below HB5.out, HW5.out, fun k hk => Nat.le_trans HB.out.size (HF4.out k hk), fun k hk => Nat.le_trans (Nat.le_trans HB.out.size HB4.out.size) (HF5.out k hk), fun k hk hk2 => by have h1 := HP4.out.lt k hk; have h2 := HF5.out k hk2; omega⟩
        have q1 : ∀ k ∈ poF b4 L4, wr.heap.size ≤ k := HF4.out
        have q2 : ∀ k ∈ wiF c5 l5 nil0, wr.heap.size ≤ k := fun k hk => Nat.le_trans HB4.out.size (HF5.out k hk)
        have r1 := HH0.out.1.lt
        have r2 := HH0.out.2.1.lt
        refine .inr (.inr ⟨by go_num, b0, c0, L0, l0, b4, c5, L4, l5, ?_, ((HK6.out.set 1 _).set 3 _).as rfl, (((HH0.out.below HB4.out).below HB5.out).below HB6.out).far HK6.out G, (hH.below HB6.out).far HK6.out G,
          fun k hk hk2 => by have h1 := r1 k hk; have h2 := q1 k hk2; omega, fun k hk hk2 => by have h1 := r1 k hk; have h2 := q2 k hk2; omega, fun k hk hk2 => by have h1 := q1 k hk; have h2 := r2 k hk2; omega, fun k hk hk2 => by have h1 := r2 k hk; have h2 := q2 k hk2; omega⟩)
        exact (bl_then (bl_then (bl_then HB.out HB4.out) HB5.out) HB6.out).trans (G.to_below (Nat.le_trans (Nat.le_trans (Nat.le_trans HB.out.size HB4.out.size) HB5.out.size) HB6.out.size) (fun k hk => by simp at hk; omega))
      case measure => simp [intOf]
    · have HB := Lib.hid B
      have HZ := Lib.hid Z
      have HH0 := Lib.hid H0
      have HH1 := Lib.hid H1
      clear B Z N2 NA2 BA2 H0 H1
      go_wp2
      go_ret2
      refine ⟨n0 + 1, rfl, ⟨b0, b1, c0, c1, L0, L1, l0, nil0, l1, nil0, .slice none 0 0⟩, ⟨HZ.out.as rfl, by simp [Pr.new], by simp [Pr.new], HH0.out.1, HH1.out.1, HH0.out.2.1, HH1.out.2.1, Row.nil _ _ _, dpp, HH0.out.2.2.2.2, d01, d10, HH1.out.2.2.2.2, dww⟩, HB.out, fun k hk => ?_⟩
      rcases mem6.1 (show k ∈ [n0 + 1] ++ (poF b0 L0 ++ (poF b1 L1 ++ (wiF c0 l0 nil0 ++ (wiF c1 l1 nil0 ++ own (.slice none 0 0))))) from hk) with rfl | h | h | h | h | h
      · omega
      · exact HH0.out.2.2.1 k h
      · exact HH1.out.2.2.1 k h
      · exact HH0.out.2.2.2.1 k h
      · exact HH1.out.2.2.2.1 k h
      · exact absurd (show k ∈ ([] : List Nat) from h) (by simp)
end
end Go.Proofs.YtcllbmjmefeknaaGreatK
